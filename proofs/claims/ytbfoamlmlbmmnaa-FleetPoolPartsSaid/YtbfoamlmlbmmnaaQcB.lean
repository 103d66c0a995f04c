/- The functions compute what was read out of them. Conditions: none. -/
import Derived.Test.YtbfoamlmlbmmnaaQcA
set_option linter.unusedVariables false
set_option linter.unusedSimpArgs false
set_option maxHeartbeats 4000000
set_option maxRecDepth 100000
namespace Px
open Go Go.RowKit Go.Proofs
theorem ref09_Check_ok {P : Program} (H : P = Try.prog) (φ : Nat) (v1 : Fleet) (r : (Int)) (h : ref09_Check φ v1 = some r) : PureT P 19 [(agg (eFleet v1))] (fun x news => x = (iv .i64 r) ∧ news = []) := by
  unfold ref09_Check at h
  refine PureT.of_code' 106 (fn19 H) rfl rfl (Nat.le_of_ble_eq_true rfl) fun w0 base r0 wI => ?_
  refine cl [0] [] rfl rfl rfl ?_
  refine cs (cr [0, 1] rfl ?_)
  refine RunOps.cons rfl rfl rfl (opBox (cs := (eFleet v1)) (Ce.agg (mv rfl)) fun b2 => ?_)
  refine cq rfl rfl rfl (opAssign (Ev.const _)) ?_
  refine rn (al [1] [0] rfl rfl rfl (sq (cs (cs (cr [0, 1, 2, 3, 4, 5, 6, 7, 8, 9, 10, 11, 12, 13, 14, 15, 16, 17, 18, 19, 20, 21] rfl ?_)))))
  refine cq rfl rfl rfl (opFieldP (fo27_0 H) (mv rfl)) ?_
  refine cq rfl rfl rfl (opLoad1 (tl22 H) ((Pt.box 0 (mv rfl) rfl rfl).take 1 (cs' := [(ro eWagonType 8 v1.fTypes)]) rfl)) ?_
  refine cq rfl rfl rfl (opLenR (il22 H) (mv rfl)) ?_
  refine cq rfl rfl rfl (opGtr (mv rfl) (Ev.const _)) ?_
  refine cq rfl rfl rfl (opMove (mv rfl)) ?_
  refine cg rfl rfl rfl rfl rfl (fun g3 => opFieldP (fo27_1 H) (mv rfl)) ?_
  refine cg rfl rfl rfl rfl rfl (fun g4 => opLoad1 (tl23 H) ((Pt.box 0 (Ev.cnd (mv rfl) g4) rfl rfl).take 1 (cs' := [(ro eWagon 5 v1.fWagons)]) rfl)) ?_
  refine cg rfl rfl rfl rfl rfl (fun g5 => opLenR (il23 H) (Ev.cnd (mv rfl) g5)) ?_
  refine cg rfl rfl rfl rfl rfl (fun g6 => opGtr (Ev.cnd (mv rfl) g6) (Ev.const _)) ?_
  refine cq rfl rfl rfl (opOr (mv rfl) (Ev.const _) (fun g7 => (Ev.cnd (mv rfl) g7))) ?_
  refine cq rfl rfl rfl (opMove (mv rfl)) ?_
  refine cg rfl rfl rfl rfl rfl (fun g8 => opFieldP (fo27_2 H) (mv rfl)) ?_
  refine cg rfl rfl rfl rfl rfl (fun g9 => opLoad1 (tl24 H) ((Pt.box 0 (Ev.cnd (mv rfl) g9) rfl rfl).take 1 (cs' := [(ro eSwap 3 v1.fSwaps)]) rfl)) ?_
  refine cg rfl rfl rfl rfl rfl (fun g10 => opLenR (il24 H) (Ev.cnd (mv rfl) g10)) ?_
  refine cg rfl rfl rfl rfl rfl (fun g11 => opGtr (Ev.cnd (mv rfl) g11) (Ev.const _)) ?_
  refine cq rfl rfl rfl (opOr (mv rfl) (Ev.const _) (fun g12 => (Ev.cnd (mv rfl) g12))) ?_
  refine cq rfl rfl rfl (opMove (mv rfl)) ?_
  refine cg rfl rfl rfl rfl rfl (fun g13 => opFieldP (fo27_3 H) (mv rfl)) ?_
  refine cg rfl rfl rfl rfl rfl (fun g14 => opLoad1 (tl25 H) ((Pt.box 0 (Ev.cnd (mv rfl) g14) rfl rfl).take 1 (cs' := [(ro eWash 3 v1.fWashes)]) rfl)) ?_
  refine cg rfl rfl rfl rfl rfl (fun g15 => opLenR (il25 H) (Ev.cnd (mv rfl) g15)) ?_
  refine cg rfl rfl rfl rfl rfl (fun g16 => opGtr (Ev.cnd (mv rfl) g16) (Ev.const _)) ?_
  refine cq rfl rfl rfl (opOr (mv rfl) (Ev.const _) (fun g17 => (Ev.cnd (mv rfl) g17))) ?_
  refine rn (al [1, 28] [0] rfl rfl rfl (sq ?_))
  refine CodeT.cond (((decide (32 < (v1.fTypes.length : Int)) || decide (4096 < (v1.fWagons.length : Int))) || decide (1024 < (v1.fSwaps.length : Int))) || decide (4096 < (v1.fWashes.length : Int))) (evBool (mv rfl)) (fun c18 => ?_) (fun c18 => ?_)
  · rw [if_pos c18] at h
    refine cs (cr [0] rfl ?_)
    refine cq rfl rfl rfl (opAssign (Ev.const _)) ?_
    refine rn (al [2] [] rfl rfl rfl (sq ?_))
    refine CodeT.ret ?_
    refine AtX.then_ret ?_
    refine AtX.ret' (iv .i64 2) (ResOK.one Try.results19 rfl) [] [] trivial rfl ?_
    obtain rfl := Option.some.inj h
    exact ⟨rfl, rfl⟩
  · rw [if_neg (bne_true c18)] at h
    refine CodeT.skip ?_
    refine al [1] [0] rfl rfl rfl ?_
    refine sq (cs (cs (cr [0] rfl ?_)))
    refine cq rfl rfl rfl (opAssign (Ev.const _)) ?_
    refine rn (al [1, 3] [0] rfl rfl rfl (sq ?_))
    refine CodeT.join (fun z : Unit => (ref09_Check_j19 φ v1)) r (fun z => ⟨Slots.of [(1, (eqv (.pointer (some ⟨b2, 0, none⟩))))], [(box b2 27 (eFleet v1))]⟩) (fun z h => ?_) (fun hJ19 => ?_)
    · replace h : (ref09_Check_j19 φ v1) = some r := h
      unfold ref09_Check_j19 at h
      refine al [1] [0] rfl rfl rfl ?_
      refine sq (cs (cs (cr [0] rfl ?_)))
      refine cq rfl rfl rfl (opAssign (Ev.const _)) ?_
      refine rn (al [1, 4] [0] rfl rfl rfl (sq ?_))
      refine CodeT.join (fun z : Unit => (ref09_Check_j20 φ v1)) r (fun z => ⟨Slots.of [(1, (eqv (.pointer (some ⟨b2, 0, none⟩))))], [(box b2 27 (eFleet v1))]⟩) (fun z h => ?_) (fun hJ20 => ?_)
      · replace h : (ref09_Check_j20 φ v1) = some r := h
        unfold ref09_Check_j20 at h
        refine al [1] [0] rfl rfl rfl ?_
        refine sq (cs (cs (cr [0] rfl ?_)))
        refine cq rfl rfl rfl (opAssign (Ev.const _)) ?_
        refine rn (al [1, 5] [0] rfl rfl rfl (sq ?_))
        refine CodeT.join (fun z : Unit => (ref09_Check_j21 φ v1)) r (fun z => ⟨Slots.of [(1, (eqv (.pointer (some ⟨b2, 0, none⟩))))], [(box b2 27 (eFleet v1))]⟩) (fun z h => ?_) (fun hJ21 => ?_)
        · replace h : (ref09_Check_j21 φ v1) = some r := h
          unfold ref09_Check_j21 at h
          refine al [1] [0] rfl rfl rfl ?_
          refine sq (cs (cr [0, 1, 2, 3] rfl ?_))
          refine cq rfl rfl rfl (opFieldP (fo27_3 H) (mv rfl)) ?_
          refine cq rfl rfl rfl (opLoad1 (tl25 H) ((Pt.box 0 (mv rfl) rfl rfl).take 1 (cs' := [(ro eWash 3 v1.fWashes)]) rfl)) ?_
          refine bindE h fun y22 ey22 h => ?_
          refine cq rfl rfl rfl (opCallQ (fnok39 H) (args := [(ro eWash 3 v1.fWashes)]) ⟨EvF.of (mv rfl) FEnt.refl, trivial⟩ (ref09_washes_ok H φ v1.fWashes _ ey22) flat_eqv) ?_
          refine cq rfl rfl rfl (opAssign (mv rfl)) ?_
          refine rn (al [2] [] rfl rfl rfl (sq ?_))
          refine CodeT.ret ?_
          refine AtX.ret' (iv .i64 y22) (ResOK.one Try.results19 rfl) [] [] trivial rfl ?_
          obtain rfl := Option.some.inj h
          exact ⟨rfl, rfl⟩
        · refine CodeT.block ?_
          refine CodeT.to (CodeT.loop (fun n (z : Int) => ref09_Check_L24 φ v1 (ref09_Check_j21 φ v1) n z) r (fun z => ⟨Slots.of [(1, (eqv (.pointer (some ⟨b2, 0, none⟩)))), (5, (iv .i64 z))], [(box b2 27 (eFleet v1))]⟩) (fun z => rfl) (fun n24 v23 ih24 h => ?_) φ 0 h) [0] (sl rfl) (ol rfl) rfl
          replace h : ref09_Check_L24 φ v1 (ref09_Check_j21 φ v1) (n24 + 1) v23 = some r := h
          rw [ref09_Check_L24] at h
          refine cs (cs (cr [0, 1, 2, 3, 4] rfl ?_))
          refine cq rfl rfl rfl (opMove (mv rfl)) ?_
          refine cq rfl rfl rfl (opFieldP (fo27_2 H) (mv rfl)) ?_
          refine cq rfl rfl rfl (opLoad1 (tl24 H) ((Pt.box 0 (mv rfl) rfl rfl).take 1 (cs' := [(ro eSwap 3 v1.fSwaps)]) rfl)) ?_
          refine cq rfl rfl rfl (opLenR (il24 H) (mv rfl)) ?_
          refine cq rfl rfl rfl (opLss (mv rfl) (mv rfl)) ?_
          refine rn (al [1, 5, 64] [0] rfl rfl rfl (sq ?_))
          refine CodeT.cond (decide (v23 < (v1.fSwaps.length : Int))) (evBool (mv rfl)) (fun c25 => ?_) (fun c25 => ?_)
          · rw [if_pos c25] at h
            refine CodeT.skip ?_
            refine al [1, 5] [0] rfl rfl rfl ?_
            refine sq (cs ?_)
            refine CodeT.block ?_
            refine cs (cr [0, 1, 2, 3, 4, 5, 6] rfl ?_)
            refine cq rfl rfl rfl (opFieldP (fo27_2 H) (mv rfl)) ?_
            refine cq rfl rfl rfl (opLoad1 (tl24 H) ((Pt.box 0 (mv rfl) rfl rfl).take 1 (cs' := [(ro eSwap 3 v1.fSwaps)]) rfl)) ?_
            refine cq rfl rfl rfl (opMove (mv rfl)) ?_
            refine ckE h fun h26 h => ?_
            refine cq rfl rfl rfl (opIndexR (e := eSwap) (y := (gt v1.fSwaps v23)) (ix24 H) (mv rfl) (mv rfl) (h26).1 (gt_some h26)) ?_
            refine RunOps.cons_q (agg (eSwap (gt v1.fSwaps v23))) rfl rfl rfl (opLoadN (tl43 H) (Pt.rop (mv rfl))) ?_
            refine RunOps.cons rfl rfl rfl (opAlloc [.int .i64 0, .int .i64 0, .int .i64 0] (ze43 H) rfl fun b27 => ?_)
            refine RunOps.cons rfl rfl rfl (opStore 1 (cells := [(iv .i64 0), (iv .i64 0), (iv .i64 0)]) (cs := (eSwap (gt v1.fSwaps v23))) (out := (eSwap (gt v1.fSwaps v23))) (tl43 H) (mv rfl) (Ce.agg (mv rfl)) rfl rfl (Nat.le_of_ble_eq_true rfl) rfl ?_)
            refine rn (al [1, 5, 6] [0, 1] rfl rfl rfl (sq (cs (cr [0, 1, 2, 3, 4, 5, 6, 7, 8, 9, 10, 11, 12, 13, 14, 15, 16, 17, 18, 19, 20, 21, 22, 23, 24, 25, 26, 27, 28, 29, 30] rfl ?_))))
            refine cq rfl rfl rfl (opFieldP (fo43_0 H) (mv rfl)) ?_
            refine cq rfl rfl rfl (opLoad1 (tl3 H) ((Pt.box 1 (mv rfl) rfl rfl).take 1 (cs' := [(iv .i64 ((gt v1.fSwaps v23).fWanted))]) rfl)) ?_
            refine cq rfl rfl rfl (opFieldP (fo27_0 H) (mv rfl)) ?_
            refine cq rfl rfl rfl (opLoad1 (tl22 H) ((Pt.box 0 (mv rfl) rfl rfl).take 1 (cs' := [(ro eWagonType 8 v1.fTypes)]) rfl)) ?_
            refine cq rfl rfl rfl (opLenR (il22 H) (mv rfl)) ?_
            refine cq rfl rfl rfl (opSub (mv rfl) (Ev.const _)) ?_
            refine bindE h fun y28 ey28 h => ?_
            refine cq rfl rfl rfl (opCallQ (fnok30 H) (args := [(iv .i64 ((gt v1.fSwaps v23).fWanted)), (iv .i64 0), (iv .i64 (W ((v1.fTypes.length : Int) - 1)))]) ⟨EvF.of (mv rfl) FEnt.refl, EvF.of (Ev.const _) FEnt.refl, EvF.of (mv rfl) FEnt.refl, trivial⟩ (ref09_within_ok H φ ((gt v1.fSwaps v23).fWanted) 0 (W ((v1.fTypes.length : Int) - 1)) _ ey28) flat_eqv) ?_
            refine cq rfl rfl rfl (opNot (mv rfl)) ?_
            refine cq rfl rfl rfl (opMove (mv rfl)) ?_
            refine cg rfl rfl rfl rfl rfl (fun g29 => opFieldP (fo43_1 H) (mv rfl)) ?_
            refine cg rfl rfl rfl rfl rfl (fun g30 => opLoad1 (tl3 H) ((Pt.box 1 (Ev.cnd (mv rfl) g30) rfl rfl).take 1 (cs' := [(iv .i64 ((gt v1.fSwaps v23).fGiven))]) rfl)) ?_
            refine cg rfl rfl rfl rfl rfl (fun g31 => opFieldP (fo27_0 H) (mv rfl)) ?_
            refine cg rfl rfl rfl rfl rfl (fun g32 => opLoad1 (tl22 H) ((Pt.box 0 (Ev.cnd (mv rfl) g32) rfl rfl).take 1 (cs' := [(ro eWagonType 8 v1.fTypes)]) rfl)) ?_
            refine cg rfl rfl rfl rfl rfl (fun g33 => opLenR (il22 H) (Ev.cnd (mv rfl) g33)) ?_
            refine cg rfl rfl rfl rfl rfl (fun g34 => opSub (Ev.cnd (mv rfl) g34) (Ev.const _)) ?_
            refine bindE h fun y36 ey36 h => ?_
            refine cg rfl rfl rfl rfl rfl (fun g35 => opCallQ (fnok30 H) (args := [(iv .i64 ((gt v1.fSwaps v23).fGiven)), (iv .i64 0), (iv .i64 (W ((v1.fTypes.length : Int) - 1)))]) ⟨EvF.of (Ev.cnd (mv rfl) g35) FEnt.refl, EvF.of (Ev.const _) FEnt.refl, EvF.of (Ev.cnd (mv rfl) g35) FEnt.refl, trivial⟩ (ref09_within_ok H φ ((gt v1.fSwaps v23).fGiven) 0 (W ((v1.fTypes.length : Int) - 1)) _ (gcall_pos ey36 g35)) flat_eqv) ?_
            refine cg rfl rfl rfl rfl rfl (fun g37 => opNot (Ev.cnd (mv rfl) g37)) ?_
            refine cq rfl rfl rfl (opOr (mv rfl) (Ev.const _) (fun g38 => (Ev.cnd (mv rfl) g38))) ?_
            refine cq rfl rfl rfl (opMove (mv rfl)) ?_
            refine cg rfl rfl rfl rfl rfl (fun g39 => opFieldP (fo43_0 H) (mv rfl)) ?_
            refine cg rfl rfl rfl rfl rfl (fun g40 => opLoad1 (tl3 H) ((Pt.box 1 (Ev.cnd (mv rfl) g40) rfl rfl).take 1 (cs' := [(iv .i64 ((gt v1.fSwaps v23).fWanted))]) rfl)) ?_
            refine cg rfl rfl rfl rfl rfl (fun g41 => opFieldP (fo43_1 H) (mv rfl)) ?_
            refine cg rfl rfl rfl rfl rfl (fun g42 => opLoad1 (tl3 H) ((Pt.box 1 (Ev.cnd (mv rfl) g42) rfl rfl).take 1 (cs' := [(iv .i64 ((gt v1.fSwaps v23).fGiven))]) rfl)) ?_
            refine cg rfl rfl rfl rfl rfl (fun g43 => opEql (Ev.cnd (mv rfl) g43) (Ev.cnd (mv rfl) g43)) ?_
            refine cq rfl rfl rfl (opOr (mv rfl) (Ev.const _) (fun g44 => (Ev.cnd (mv rfl) g44))) ?_
            refine cq rfl rfl rfl (opMove (mv rfl)) ?_
            refine cg rfl rfl rfl rfl rfl (fun g45 => opFieldP (fo43_2 H) (mv rfl)) ?_
            refine cg rfl rfl rfl rfl rfl (fun g46 => opLoad1 (tl3 H) ((Pt.box 1 (Ev.cnd (mv rfl) g46) rfl rfl).take 1 (cs' := [(iv .i64 ((gt v1.fSwaps v23).fCost))]) rfl)) ?_
            refine bindE h fun y48 ey48 h => ?_
            refine cg rfl rfl rfl rfl rfl (fun g47 => opCallQ (fnok30 H) (args := [(iv .i64 ((gt v1.fSwaps v23).fCost)), (iv .i64 0), (iv .i64 1000000000)]) ⟨EvF.of (Ev.cnd (mv rfl) g47) FEnt.refl, EvF.of (Ev.const _) FEnt.refl, EvF.of (Ev.const _) FEnt.refl, trivial⟩ (ref09_within_ok H φ ((gt v1.fSwaps v23).fCost) 0 1000000000 _ (gcall_pos ey48 g47)) flat_eqv) ?_
            refine cg rfl rfl rfl rfl rfl (fun g49 => opNot (Ev.cnd (mv rfl) g49)) ?_
            refine cq rfl rfl rfl (opOr (mv rfl) (Ev.const _) (fun g50 => (Ev.cnd (mv rfl) g50))) ?_
            refine rn (al [1, 5, 102] [0] rfl rfl rfl (sq ?_))
            refine CodeT.cond ((((!y28) || (!y36)) || ((gt v1.fSwaps v23).fWanted == (gt v1.fSwaps v23).fGiven)) || (!y48)) (evBool (mv rfl)) (fun c51 => ?_) (fun c51 => ?_)
            · rw [if_pos c51] at h
              refine cs (cr [0] rfl ?_)
              refine cq rfl rfl rfl (opAssign (Ev.const _)) ?_
              refine rn (al [2] [] rfl rfl rfl (sq ?_))
              refine CodeT.ret ?_
              refine AtX.in_ret ?_
              refine AtX.then_ret ?_
              refine AtX.then_ret ?_
              refine AtX.in_ret ?_
              refine AtX.then_ret ?_
              refine AtX.ret' (iv .i64 1) (ResOK.one Try.results19 rfl) [] [] trivial rfl ?_
              obtain rfl := Option.some.inj h
              exact ⟨rfl, rfl⟩
            · rw [if_neg (bne_true c51)] at h
              refine CodeT.skip ?_
              refine AtX.in_normal ?_
              refine al [1, 5] [0] rfl rfl rfl ?_
              refine sq (cr [0, 1, 2] rfl ?_)
              refine cq rfl rfl rfl (opMove (mv rfl)) ?_
              refine cq rfl rfl rfl (opAdd (mv rfl) (Ev.const _)) ?_
              refine cq rfl rfl rfl (opAssign (mv rfl)) ?_
              refine rn ?_
              exact AtX.to (ih24 (W (v23 + 1)) h) [0] (sl rfl) (ol rfl) rfl
          · rw [if_neg (bne_true c25)] at h
            refine CodeT.exit ?_
            refine AtX.then_exit ?_
            refine AtX.then_exit ?_
            refine AtX.in_hit ?_
            exact AtX.to (hJ21 () h) [0] (sl rfl) (ol rfl) rfl
      · refine CodeT.block ?_
        refine CodeT.to (CodeT.loop (fun n (z : Int) => ref09_Check_L53 φ v1 (ref09_Check_j20 φ v1) n z) r (fun z => ⟨Slots.of [(1, (eqv (.pointer (some ⟨b2, 0, none⟩)))), (4, (iv .i64 z))], [(box b2 27 (eFleet v1))]⟩) (fun z => rfl) (fun n53 v52 ih53 h => ?_) φ 0 h) [0] (sl rfl) (ol rfl) rfl
        replace h : ref09_Check_L53 φ v1 (ref09_Check_j20 φ v1) (n53 + 1) v52 = some r := h
        rw [ref09_Check_L53] at h
        refine cs (cs (cr [0, 1, 2, 3, 4] rfl ?_))
        refine cq rfl rfl rfl (opMove (mv rfl)) ?_
        refine cq rfl rfl rfl (opFieldP (fo27_1 H) (mv rfl)) ?_
        refine cq rfl rfl rfl (opLoad1 (tl23 H) ((Pt.box 0 (mv rfl) rfl rfl).take 1 (cs' := [(ro eWagon 5 v1.fWagons)]) rfl)) ?_
        refine cq rfl rfl rfl (opLenR (il23 H) (mv rfl)) ?_
        refine cq rfl rfl rfl (opLss (mv rfl) (mv rfl)) ?_
        refine rn (al [1, 4, 47] [0] rfl rfl rfl (sq ?_))
        refine CodeT.cond (decide (v52 < (v1.fWagons.length : Int))) (evBool (mv rfl)) (fun c54 => ?_) (fun c54 => ?_)
        · rw [if_pos c54] at h
          refine CodeT.skip ?_
          refine al [1, 4] [0] rfl rfl rfl ?_
          refine sq (cs ?_)
          refine CodeT.block ?_
          refine cs ?_
          refine ckE h fun h55 h => ?_
          refine bindE h fun y56 ey56 h => ?_
          refine CodeT.draw (QR := [(0, (eqv (.pointer (some ⟨b2, 1, none⟩)))), (1, (ro eWagon 5 v1.fWagons)), (2, (iv .i64 v52)), (3, (rop (eWagon (gt v1.fWagons v52)))), (4, (agg (eWagon (gt v1.fWagons v52)))), (5, (eqv (.pointer (some ⟨b2, 0, none⟩)))), (6, (ro eWagonType 8 v1.fTypes)), (7, (iv .i64 (v1.fTypes.length : Int))), (8, (bv y56)), (9, (bv (!y56)))]) (tab := [(some 50, []), (some 51, [0]), (some 52, []), (some 53, [1, 2]), (some 54, [3]), (some 55, []), (some 56, [5]), (some 57, [6]), (some 58, [4, 7]), (some 59, [8])]) (mixed H) ?_
          refine Reg.intro [] [] (by kernel_rfl) rfl ⟨rfl, rfl, rfl, rfl, rfl, rfl, rfl, rfl, rfl, rfl, trivial⟩ ⟨(fun _ => ⟨_, rfl, (opFieldP (fo27_1 H) (mv rfl))⟩), (fun _ => ⟨_, rfl, (opLoad1 (tl23 H) ((Pt.box 0 (mv rfl) rfl rfl).take 1 (cs' := [(ro eWagon 5 v1.fWagons)]) rfl))⟩), (fun _ => ⟨_, rfl, (opMove (mv rfl))⟩), (fun _ => ⟨_, rfl, (opIndexR (e := eWagon) (y := (gt v1.fWagons v52)) (ix23 H) (mv rfl) (mv rfl) (h55).1 (gt_some h55))⟩), (fun _ => ⟨_, rfl, (opLoadN (tl47 H) (Pt.rop (mv rfl)))⟩), (fun _ => ⟨_, rfl, (opFieldP (fo27_0 H) (mv rfl))⟩), (fun _ => ⟨_, rfl, (opLoad1 (tl22 H) ((Pt.box 0 (mv rfl) rfl rfl).take 1 (cs' := [(ro eWagonType 8 v1.fTypes)]) rfl))⟩), (fun _ => ⟨_, rfl, (opLenR (il22 H) (mv rfl))⟩), (fun _ => ⟨_, rfl, (opCallQ (fnok38 H) (args := [(agg (eWagon (gt v1.fWagons v52))), (iv .i64 (v1.fTypes.length : Int))]) ⟨EvF.of (mv rfl) FEnt.refl, EvF.of (mv rfl) FEnt.refl, trivial⟩ (ref09_validWagon_ok H φ (gt v1.fWagons v52) (v1.fTypes.length : Int) _ ey56) flat_eqv)⟩), (fun _ => ⟨_, rfl, (opNot (mv rfl))⟩), trivial⟩ trivial (fun _ => ?_)
          refine al [1, 4, 59] [0] rfl rfl rfl ?_
          refine sq ?_
          refine CodeT.cond (!y56) (evBool (mv rfl)) (fun c57 => ?_) (fun c57 => ?_)
          · rw [if_pos c57] at h
            refine cs (cr [0] rfl ?_)
            refine cq rfl rfl rfl (opAssign (Ev.const _)) ?_
            refine rn (al [2] [] rfl rfl rfl (sq ?_))
            refine CodeT.ret ?_
            refine AtX.in_ret ?_
            refine AtX.then_ret ?_
            refine AtX.then_ret ?_
            refine AtX.in_ret ?_
            refine AtX.then_ret ?_
            refine AtX.ret' (iv .i64 1) (ResOK.one Try.results19 rfl) [] [] trivial rfl ?_
            obtain rfl := Option.some.inj h
            exact ⟨rfl, rfl⟩
          · rw [if_neg (bne_true c57)] at h
            refine CodeT.skip ?_
            refine AtX.in_normal ?_
            refine al [1, 4] [0] rfl rfl rfl ?_
            refine sq (cr [0, 1, 2] rfl ?_)
            refine cq rfl rfl rfl (opMove (mv rfl)) ?_
            refine cq rfl rfl rfl (opAdd (mv rfl) (Ev.const _)) ?_
            refine cq rfl rfl rfl (opAssign (mv rfl)) ?_
            refine rn ?_
            exact AtX.to (ih53 (W (v52 + 1)) h) [0] (sl rfl) (ol rfl) rfl
        · rw [if_neg (bne_true c54)] at h
          refine CodeT.exit ?_
          refine AtX.then_exit ?_
          refine AtX.then_exit ?_
          refine AtX.in_hit ?_
          exact AtX.to (hJ20 () h) [0] (sl rfl) (ol rfl) rfl
    · refine CodeT.block ?_
      refine CodeT.to (CodeT.loop (fun n (z : Int) => ref09_Check_L59 φ v1 (ref09_Check_j19 φ v1) n z) r (fun z => ⟨Slots.of [(1, (eqv (.pointer (some ⟨b2, 0, none⟩)))), (3, (iv .i64 z))], [(box b2 27 (eFleet v1))]⟩) (fun z => rfl) (fun n59 v58 ih59 h => ?_) φ 0 h) [0] (sl rfl) (ol rfl) rfl
      replace h : ref09_Check_L59 φ v1 (ref09_Check_j19 φ v1) (n59 + 1) v58 = some r := h
      rw [ref09_Check_L59] at h
      refine cs (cs (cr [0, 1, 2, 3, 4] rfl ?_))
      refine cq rfl rfl rfl (opMove (mv rfl)) ?_
      refine cq rfl rfl rfl (opFieldP (fo27_0 H) (mv rfl)) ?_
      refine cq rfl rfl rfl (opLoad1 (tl22 H) ((Pt.box 0 (mv rfl) rfl rfl).take 1 (cs' := [(ro eWagonType 8 v1.fTypes)]) rfl)) ?_
      refine cq rfl rfl rfl (opLenR (il22 H) (mv rfl)) ?_
      refine cq rfl rfl rfl (opLss (mv rfl) (mv rfl)) ?_
      refine rn (al [1, 3, 33] [0] rfl rfl rfl (sq ?_))
      refine CodeT.cond (decide (v58 < (v1.fTypes.length : Int))) (evBool (mv rfl)) (fun c60 => ?_) (fun c60 => ?_)
      · rw [if_pos c60] at h
        refine CodeT.skip ?_
        refine al [1, 3] [0] rfl rfl rfl ?_
        refine sq (cs ?_)
        refine CodeT.block ?_
        refine cs (cr [0, 1, 2, 3, 4, 5, 6] rfl ?_)
        refine cq rfl rfl rfl (opFieldP (fo27_0 H) (mv rfl)) ?_
        refine cq rfl rfl rfl (opLoad1 (tl22 H) ((Pt.box 0 (mv rfl) rfl rfl).take 1 (cs' := [(ro eWagonType 8 v1.fTypes)]) rfl)) ?_
        refine cq rfl rfl rfl (opMove (mv rfl)) ?_
        refine ckE h fun h61 h => ?_
        refine cq rfl rfl rfl (opIndexR (e := eWagonType) (y := (gt v1.fTypes v58)) (ix22 H) (mv rfl) (mv rfl) (h61).1 (gt_some h61)) ?_
        refine RunOps.cons_q (agg (eWagonType (gt v1.fTypes v58))) rfl rfl rfl (opLoadN (tl50 H) (Pt.rop (mv rfl))) ?_
        refine bindE h fun y62 ey62 h => ?_
        refine cq rfl rfl rfl (opCallQ (fnok37 H) (args := [(agg (eWagonType (gt v1.fTypes v58)))]) ⟨EvF.of (mv rfl) FEnt.refl, trivial⟩ (ref09_validType_ok H φ (gt v1.fTypes v58) _ ey62) flat_eqv) ?_
        refine cq rfl rfl rfl (opNot (mv rfl)) ?_
        refine rn (al [1, 3, 42] [0] rfl rfl rfl (sq ?_))
        refine CodeT.cond (!y62) (evBool (mv rfl)) (fun c63 => ?_) (fun c63 => ?_)
        · rw [if_pos c63] at h
          refine cs (cr [0] rfl ?_)
          refine cq rfl rfl rfl (opAssign (Ev.const _)) ?_
          refine rn (al [2] [] rfl rfl rfl (sq ?_))
          refine CodeT.ret ?_
          refine AtX.in_ret ?_
          refine AtX.then_ret ?_
          refine AtX.then_ret ?_
          refine AtX.in_ret ?_
          refine AtX.then_ret ?_
          refine AtX.ret' (iv .i64 1) (ResOK.one Try.results19 rfl) [] [] trivial rfl ?_
          obtain rfl := Option.some.inj h
          exact ⟨rfl, rfl⟩
        · rw [if_neg (bne_true c63)] at h
          refine CodeT.skip ?_
          refine AtX.in_normal ?_
          refine al [1, 3] [0] rfl rfl rfl ?_
          refine sq (cr [0, 1, 2] rfl ?_)
          refine cq rfl rfl rfl (opMove (mv rfl)) ?_
          refine cq rfl rfl rfl (opAdd (mv rfl) (Ev.const _)) ?_
          refine cq rfl rfl rfl (opAssign (mv rfl)) ?_
          refine rn ?_
          exact AtX.to (ih59 (W (v58 + 1)) h) [0] (sl rfl) (ol rfl) rfl
      · rw [if_neg (bne_true c60)] at h
        refine CodeT.exit ?_
        refine AtX.then_exit ?_
        refine AtX.then_exit ?_
        refine AtX.in_hit ?_
        exact AtX.to (hJ19 () h) [0] (sl rfl) (ol rfl) rfl
theorem fleet_wagonOf_ok {P : Program} (H : P = Try.prog) (φ : Nat) (v1 : Fleet) (v2 : Int) (r : (Wagon × WagonType × Int)) (h : fleet_wagonOf φ v1 v2 = some r) : PureT P 33 [(agg (eFleet v1)), (iv .i64 v2)] (fun x news => x = tupv [(agg (eWagon r.1)), (agg (eWagonType r.2.1)), (iv .i64 r.2.2)] ∧ news = []) := by
  unfold fleet_wagonOf at h
  refine PureT.of_code' 37 (fn33 H) rfl rfl (Nat.le_of_ble_eq_true rfl) fun w0 base r0 wI => ?_
  refine cl [0, 1] [] rfl rfl rfl ?_
  refine cs (cr [0, 1, 2, 3] rfl ?_)
  refine RunOps.cons rfl rfl rfl (opBox (cs := (eFleet v1)) (Ce.agg (mv rfl)) fun b3 => ?_)
  refine RunOps.cons rfl rfl rfl (opAlloc [.int .i64 0, .int .i64 0, .int .i64 0, .int .i64 0, .int .i64 0] (ze47 H) rfl fun b4 => ?_)
  refine RunOps.cons rfl rfl rfl (opAlloc [.int .i64 0, .int .i64 0, .int .i64 0, .int .i64 0, .int .i64 0, .int .u64 0, .int .i64 0, .int .i64 0] (ze50 H) rfl fun b5 => ?_)
  refine cq rfl rfl rfl (opAssign (Ev.const _)) ?_
  refine rn (al [1, 2, 4, 5] [0, 1, 2] rfl rfl rfl (sq (cs (cs (cr [0, 1, 2] rfl ?_)))))
  refine RunOps.cons_q (agg (eFleet v1)) rfl rfl rfl (opLoadN (tl27 H) ((Pt.box 0 (mv rfl) rfl rfl).take 4 (cs' := (eFleet v1)) rfl)) ?_
  refine bindE h fun y6 ey6 h => ?_
  refine cq rfl rfl rfl (opCallQ (fnok18 H) (args := [(agg (eFleet v1))]) ⟨EvF.of (mv rfl) FEnt.refl, trivial⟩ (fleet_Check_ok H φ v1 _ ey6) flat_eqv) ?_
  refine cq rfl rfl rfl (opAssign (mv rfl)) ?_
  refine rn (al [1, 2, 4, 5, 7] [0, 1, 2] rfl rfl rfl (sq (cs (cr [0, 1] rfl ?_))))
  refine cq rfl rfl rfl (opMove (mv rfl)) ?_
  refine cq rfl rfl rfl (opNeq (mv rfl) (Ev.const _)) ?_
  refine rn (al [1, 2, 4, 5, 7, 12] [0, 1, 2] rfl rfl rfl (sq ?_))
  refine CodeT.cond (y6 != 0) (evBool (mv rfl)) (fun c7 => ?_) (fun c7 => ?_)
  · rw [if_pos c7] at h
    refine cs (cr [0, 1, 2, 3, 4, 5] rfl ?_)
    refine cq rfl rfl rfl (opBuild [.int .i64 0, .int .i64 0, .int .i64 0, .int .i64 0, .int .i64 0] [] (out := [(iv .i64 0), (iv .i64 0), (iv .i64 0), (iv .i64 0), (iv .i64 0)]) (ze47 H) rfl (tb47 H) trivial rfl) ?_
    refine cq rfl rfl rfl (opBuild [.int .i64 0, .int .i64 0, .int .i64 0, .int .i64 0, .int .i64 0, .int .u64 0, .int .i64 0, .int .i64 0] [] (out := [(iv .i64 0), (iv .i64 0), (iv .i64 0), (iv .i64 0), (iv .i64 0), (iv .u64 0), (iv .i64 0), (iv .i64 0)]) (ze50 H) rfl (tb50 H) trivial rfl) ?_
    refine cq rfl rfl rfl (opMove (mv rfl)) ?_
    refine RunOps.cons rfl rfl rfl (opStore 1 (cells := [(iv .i64 0), (iv .i64 0), (iv .i64 0), (iv .i64 0), (iv .i64 0)]) (cs := [(iv .i64 0), (iv .i64 0), (iv .i64 0), (iv .i64 0), (iv .i64 0)]) (out := [(iv .i64 0), (iv .i64 0), (iv .i64 0), (iv .i64 0), (iv .i64 0)]) (tl47 H) (mv rfl) (Ce.agg (mv rfl)) rfl rfl (Nat.le_of_ble_eq_true rfl) rfl ?_)
    refine RunOps.cons rfl rfl rfl (opStore 2 (cells := [(iv .i64 0), (iv .i64 0), (iv .i64 0), (iv .i64 0), (iv .i64 0), (iv .u64 0), (iv .i64 0), (iv .i64 0)]) (cs := [(iv .i64 0), (iv .i64 0), (iv .i64 0), (iv .i64 0), (iv .i64 0), (iv .u64 0), (iv .i64 0), (iv .i64 0)]) (out := [(iv .i64 0), (iv .i64 0), (iv .i64 0), (iv .i64 0), (iv .i64 0), (iv .u64 0), (iv .i64 0), (iv .i64 0)]) (tl50 H) (mv rfl) (Ce.agg (mv rfl)) rfl rfl (Nat.le_of_ble_eq_true rfl) rfl ?_)
    refine cq rfl rfl rfl (opAssign (mv rfl)) ?_
    refine rn (al [4, 5, 6] [1, 2] rfl rfl rfl (sq ?_))
    refine CodeT.ret ?_
    refine AtX.then_ret ?_
    refine AtX.ret' (tupv [(agg [(iv .i64 0), (iv .i64 0), (iv .i64 0), (iv .i64 0), (iv .i64 0)]), (agg [(iv .i64 0), (iv .i64 0), (iv .i64 0), (iv .i64 0), (iv .i64 0), (iv .u64 0), (iv .i64 0), (iv .i64 0)]), (iv .i64 y6)]) (ResOK.three Try.results33 (.inr ⟨_, rfl, (tl47 H), ((Pt.box 0 (mv rfl) rfl rfl).take 5 (cs' := [(iv .i64 0), (iv .i64 0), (iv .i64 0), (iv .i64 0), (iv .i64 0)]) rfl)⟩) (.inr ⟨_, rfl, (tl50 H), ((Pt.box 1 (mv rfl) rfl rfl).take 8 (cs' := [(iv .i64 0), (iv .i64 0), (iv .i64 0), (iv .i64 0), (iv .i64 0), (iv .u64 0), (iv .i64 0), (iv .i64 0)]) rfl)⟩) rfl) [] [] trivial rfl ?_
    obtain rfl := Option.some.inj h
    exact ⟨rfl, rfl⟩
  · rw [if_neg (bne_true c7)] at h
    refine CodeT.skip ?_
    refine al [1, 2, 4, 5] [0, 1, 2] rfl rfl rfl ?_
    refine sq (cs (cs (cr [0, 1, 2, 3, 4, 5, 6] rfl ?_)))
    refine cq rfl rfl rfl (opMove (mv rfl)) ?_
    refine cq rfl rfl rfl (opFieldP (fo27_1 H) (mv rfl)) ?_
    refine cq rfl rfl rfl (opLoad1 (tl23 H) ((Pt.box 0 (mv rfl) rfl rfl).take 1 (cs' := [(ro eWagon 5 v1.fWagons)]) rfl)) ?_
    refine cq rfl rfl rfl (opLenR (il23 H) (mv rfl)) ?_
    refine cq rfl rfl rfl (opSub (mv rfl) (Ev.const _)) ?_
    refine bindE h fun y8 ey8 h => ?_
    refine cq rfl rfl rfl (opCallQ (fnok29 H) (args := [(iv .i64 v2), (iv .i64 0), (iv .i64 (W ((v1.fWagons.length : Int) - 1)))]) ⟨EvF.of (mv rfl) FEnt.refl, EvF.of (Ev.const _) FEnt.refl, EvF.of (mv rfl) FEnt.refl, trivial⟩ (fleet_between_ok H φ v2 0 (W ((v1.fWagons.length : Int) - 1)) _ ey8) flat_eqv) ?_
    refine cq rfl rfl rfl (opNot (mv rfl)) ?_
    refine rn (al [1, 2, 4, 5, 22] [0, 1, 2] rfl rfl rfl (sq ?_))
    refine CodeT.cond (!y8) (evBool (mv rfl)) (fun c9 => ?_) (fun c9 => ?_)
    · rw [if_pos c9] at h
      refine cs (cr [0, 1, 2, 3, 4] rfl ?_)
      refine cq rfl rfl rfl (opBuild [.int .i64 0, .int .i64 0, .int .i64 0, .int .i64 0, .int .i64 0] [] (out := [(iv .i64 0), (iv .i64 0), (iv .i64 0), (iv .i64 0), (iv .i64 0)]) (ze47 H) rfl (tb47 H) trivial rfl) ?_
      refine cq rfl rfl rfl (opBuild [.int .i64 0, .int .i64 0, .int .i64 0, .int .i64 0, .int .i64 0, .int .u64 0, .int .i64 0, .int .i64 0] [] (out := [(iv .i64 0), (iv .i64 0), (iv .i64 0), (iv .i64 0), (iv .i64 0), (iv .u64 0), (iv .i64 0), (iv .i64 0)]) (ze50 H) rfl (tb50 H) trivial rfl) ?_
      refine RunOps.cons rfl rfl rfl (opStore 1 (cells := [(iv .i64 0), (iv .i64 0), (iv .i64 0), (iv .i64 0), (iv .i64 0)]) (cs := [(iv .i64 0), (iv .i64 0), (iv .i64 0), (iv .i64 0), (iv .i64 0)]) (out := [(iv .i64 0), (iv .i64 0), (iv .i64 0), (iv .i64 0), (iv .i64 0)]) (tl47 H) (mv rfl) (Ce.agg (mv rfl)) rfl rfl (Nat.le_of_ble_eq_true rfl) rfl ?_)
      refine RunOps.cons rfl rfl rfl (opStore 2 (cells := [(iv .i64 0), (iv .i64 0), (iv .i64 0), (iv .i64 0), (iv .i64 0), (iv .u64 0), (iv .i64 0), (iv .i64 0)]) (cs := [(iv .i64 0), (iv .i64 0), (iv .i64 0), (iv .i64 0), (iv .i64 0), (iv .u64 0), (iv .i64 0), (iv .i64 0)]) (out := [(iv .i64 0), (iv .i64 0), (iv .i64 0), (iv .i64 0), (iv .i64 0), (iv .u64 0), (iv .i64 0), (iv .i64 0)]) (tl50 H) (mv rfl) (Ce.agg (mv rfl)) rfl rfl (Nat.le_of_ble_eq_true rfl) rfl ?_)
      refine cq rfl rfl rfl (opAssign (Ev.const _)) ?_
      refine rn (al [4, 5, 6] [1, 2] rfl rfl rfl (sq ?_))
      refine CodeT.ret ?_
      refine AtX.then_ret ?_
      refine AtX.ret' (tupv [(agg [(iv .i64 0), (iv .i64 0), (iv .i64 0), (iv .i64 0), (iv .i64 0)]), (agg [(iv .i64 0), (iv .i64 0), (iv .i64 0), (iv .i64 0), (iv .i64 0), (iv .u64 0), (iv .i64 0), (iv .i64 0)]), (iv .i64 90)]) (ResOK.three Try.results33 (.inr ⟨_, rfl, (tl47 H), ((Pt.box 0 (mv rfl) rfl rfl).take 5 (cs' := [(iv .i64 0), (iv .i64 0), (iv .i64 0), (iv .i64 0), (iv .i64 0)]) rfl)⟩) (.inr ⟨_, rfl, (tl50 H), ((Pt.box 1 (mv rfl) rfl rfl).take 8 (cs' := [(iv .i64 0), (iv .i64 0), (iv .i64 0), (iv .i64 0), (iv .i64 0), (iv .u64 0), (iv .i64 0), (iv .i64 0)]) rfl)⟩) rfl) [] [] trivial rfl ?_
      obtain rfl := Option.some.inj h
      exact ⟨rfl, rfl⟩
    · rw [if_neg (bne_true c9)] at h
      refine CodeT.skip ?_
      refine al [1, 2, 4, 5] [0, 1, 2] rfl rfl rfl ?_
      refine sq (cs (cr [0, 1, 2, 3, 4, 5, 6] rfl ?_))
      refine cq rfl rfl rfl (opFieldP (fo27_1 H) (mv rfl)) ?_
      refine cq rfl rfl rfl (opLoad1 (tl23 H) ((Pt.box 0 (mv rfl) rfl rfl).take 1 (cs' := [(ro eWagon 5 v1.fWagons)]) rfl)) ?_
      refine cq rfl rfl rfl (opMove (mv rfl)) ?_
      refine ckE h fun h10 h => ?_
      refine cq rfl rfl rfl (opIndexR (e := eWagon) (y := (gt v1.fWagons v2)) (ix23 H) (mv rfl) (mv rfl) (h10).1 (gt_some h10)) ?_
      refine RunOps.cons_q (agg (eWagon (gt v1.fWagons v2))) rfl rfl rfl (opLoadN (tl47 H) (Pt.rop (mv rfl))) ?_
      refine RunOps.cons rfl rfl rfl (opAlloc [.int .i64 0, .int .i64 0, .int .i64 0, .int .i64 0, .int .i64 0] (ze47 H) rfl fun b11 => ?_)
      refine RunOps.cons rfl rfl rfl (opStore 3 (cells := [(iv .i64 0), (iv .i64 0), (iv .i64 0), (iv .i64 0), (iv .i64 0)]) (cs := (eWagon (gt v1.fWagons v2))) (out := (eWagon (gt v1.fWagons v2))) (tl47 H) (mv rfl) (Ce.agg (mv rfl)) rfl rfl (Nat.le_of_ble_eq_true rfl) rfl ?_)
      refine rn (al [2, 4, 5, 8] [0, 1, 2, 3] rfl rfl rfl (sq (cs ?_)))
      refine ckE h fun h12 h => ?_
      refine CodeT.draw (QR := [(0, (agg (eWagon (gt v1.fWagons v2)))), (1, (eqv (.pointer (some ⟨b3, 0, none⟩)))), (2, (ro eWagonType 8 v1.fTypes)), (3, (eqv (.pointer (some ⟨b11, 0, none⟩)))), (4, (iv .i64 ((gt v1.fWagons v2).fType))), (5, (rop (eWagonType (gt v1.fTypes ((gt v1.fWagons v2).fType))))), (6, (agg (eWagonType (gt v1.fTypes ((gt v1.fWagons v2).fType)))))]) (tab := [(some 30, []), (some 31, []), (some 32, [1]), (some 33, []), (some 34, [3]), (some 35, [2, 4]), (some 36, [5]), (none, [0, 0]), (none, [6, 7, 0, 1, 2, 3, 4, 5, 6, 7]), (some 6, [8, 0, 1, 2, 3, 4, 5, 6, 7, 8])]) (mixed H) ?_
      refine Reg.intro [7] [] (by kernel_rfl) rfl ⟨rfl, rfl, rfl, rfl, rfl, rfl, rfl, trivial⟩ ⟨(fun _ => ⟨_, rfl, (opLoadN (tl47 H) ((Pt.box 3 (mv rfl) rfl rfl).take 5 (cs' := (eWagon (gt v1.fWagons v2))) rfl))⟩), (fun _ => ⟨_, rfl, (opFieldP (fo27_0 H) (mv rfl))⟩), (fun _ => ⟨_, rfl, (opLoad1 (tl22 H) ((Pt.box 0 (mv rfl) rfl rfl).take 1 (cs' := [(ro eWagonType 8 v1.fTypes)]) rfl))⟩), (fun _ => ⟨_, rfl, (opFieldP (fo47_0 H) (mv rfl))⟩), (fun _ => ⟨_, rfl, (opLoad1 (tl3 H) ((Pt.box 3 (mv rfl) rfl rfl).take 1 (cs' := [(iv .i64 ((gt v1.fWagons v2).fType))]) rfl))⟩), (fun _ => ⟨_, rfl, (opIndexR (e := eWagonType) (y := (gt v1.fTypes ((gt v1.fWagons v2).fType))) (ix22 H) (mv rfl) (mv rfl) (h12).1 (gt_some h12))⟩), (fun _ => ⟨_, rfl, (opLoadN (tl50 H) (Pt.rop (mv rfl)))⟩), trivial⟩ ⟨⟨_, rfl, rfl, rfl, rfl, opStore 1 (cells := [(iv .i64 0), (iv .i64 0), (iv .i64 0), (iv .i64 0), (iv .i64 0)]) (cs := (eWagon (gt v1.fWagons v2))) (out := (eWagon (gt v1.fWagons v2))) (tl47 H) (mv rfl) (Ce.agg (mv rfl)) rfl rfl (Nat.le_of_ble_eq_true rfl) rfl ⟨[], rfl, ?_⟩⟩, trivial⟩ (fun hc => Bool.noConfusion (hc : false = true))
      refine Reg.intro [8] [0] (by kernel_rfl) rfl ⟨rfl, rfl, rfl, rfl, rfl, rfl, rfl, trivial⟩ ⟨(fun hn => Bool.noConfusion (hn : true = false)), (fun _ => ⟨_, rfl, (opFieldP (fo27_0 H) (mv rfl))⟩), (fun _ => ⟨_, rfl, (opLoad1 (tl22 H) ((Pt.box 0 (mv rfl) rfl rfl).take 1 (cs' := [(ro eWagonType 8 v1.fTypes)]) rfl))⟩), (fun _ => ⟨_, rfl, (opFieldP (fo47_0 H) (mv rfl))⟩), (fun _ => ⟨_, rfl, (opLoad1 (tl3 H) ((Pt.box 3 (mv rfl) rfl rfl).take 1 (cs' := [(iv .i64 ((gt v1.fWagons v2).fType))]) rfl))⟩), (fun _ => ⟨_, rfl, (opIndexR (e := eWagonType) (y := (gt v1.fTypes ((gt v1.fWagons v2).fType))) (ix22 H) (mv rfl) (mv rfl) (h12).1 (gt_some h12))⟩), (fun _ => ⟨_, rfl, (opLoadN (tl50 H) (Pt.rop (mv rfl)))⟩), trivial⟩ ⟨⟨_, rfl, rfl, rfl, rfl, opStore 2 (cells := [(iv .i64 0), (iv .i64 0), (iv .i64 0), (iv .i64 0), (iv .i64 0), (iv .u64 0), (iv .i64 0), (iv .i64 0)]) (cs := (eWagonType (gt v1.fTypes ((gt v1.fWagons v2).fType)))) (out := (eWagonType (gt v1.fTypes ((gt v1.fWagons v2).fType)))) (tl50 H) (mv rfl) (Ce.agg (mv rfl)) rfl rfl (Nat.le_of_ble_eq_true rfl) rfl ⟨[(9, (iv .i64 0))], rfl, ?_⟩⟩, trivial⟩ (fun hc => Bool.noConfusion (hc : false = true))
      refine Reg.intro [] [0, 1, 2, 3, 4, 5, 6] (by kernel_rfl) rfl ⟨rfl, rfl, rfl, rfl, rfl, rfl, rfl, rfl, trivial⟩ ⟨(fun hn => Bool.noConfusion (hn : true = false)), (fun hn => Bool.noConfusion (hn : true = false)), (fun hn => Bool.noConfusion (hn : true = false)), (fun hn => Bool.noConfusion (hn : true = false)), (fun hn => Bool.noConfusion (hn : true = false)), (fun hn => Bool.noConfusion (hn : true = false)), (fun hn => Bool.noConfusion (hn : true = false)), (fun _ => ⟨_, rfl, (opAssign (Ev.const _))⟩), trivial⟩ trivial (fun _ => ?_)
      refine al [4, 5, 6] [1, 2] rfl rfl rfl ?_
      refine sq ?_
      refine CodeT.ret ?_
      refine AtX.ret' (tupv [(agg (eWagon (gt v1.fWagons v2))), (agg (eWagonType (gt v1.fTypes ((gt v1.fWagons v2).fType)))), (iv .i64 0)]) (ResOK.three Try.results33 (.inr ⟨_, rfl, (tl47 H), ((Pt.box 0 (mv rfl) rfl rfl).take 5 (cs' := (eWagon (gt v1.fWagons v2))) rfl)⟩) (.inr ⟨_, rfl, (tl50 H), ((Pt.box 1 (mv rfl) rfl rfl).take 8 (cs' := (eWagonType (gt v1.fTypes ((gt v1.fWagons v2).fType)))) rfl)⟩) rfl) [] [] trivial rfl ?_
      obtain rfl := Option.some.inj h
      exact ⟨rfl, rfl⟩
theorem fleet_Fits_ok {P : Program} (H : P = Try.prog) (φ : Nat) (v1 : Fleet) (v2 : Int) (v3 : Int) (v4 : Int) (r : (Int)) (h : fleet_Fits φ v1 v2 v3 v4 = some r) : PureT P 20 [(agg (eFleet v1)), (iv .i64 v2), (iv .i64 v3), (iv .i64 v4)] (fun x news => x = (iv .i64 r) ∧ news = []) := by
  unfold fleet_Fits at h
  refine PureT.of_code' 40 (fn20 H) rfl rfl (Nat.le_of_ble_eq_true rfl) fun w0 base r0 wI => ?_
  refine cl [0, 1, 2, 3] [] rfl rfl rfl ?_
  refine cs (cr [0, 1] rfl ?_)
  refine RunOps.cons rfl rfl rfl (opBox (cs := (eFleet v1)) (Ce.agg (mv rfl)) fun b5 => ?_)
  refine cq rfl rfl rfl (opAssign (Ev.const _)) ?_
  refine rn (al [1, 2, 3, 4] [0] rfl rfl rfl (sq (cs (cr [0, 1, 2, 3, 4, 5, 6, 7, 8, 9, 10, 11] rfl ?_))))
  refine RunOps.cons_q (agg (eFleet v1)) rfl rfl rfl (opLoadN (tl27 H) ((Pt.box 0 (mv rfl) rfl rfl).take 4 (cs' := (eFleet v1)) rfl)) ?_
  refine cq rfl rfl rfl (opMove (mv rfl)) ?_
  refine bindE h fun y6 ey6 h => ?_
  refine cq rfl rfl rfl (opCallQ (fnok33 H) (args := [(agg (eFleet v1)), (iv .i64 v2)]) ⟨EvF.of (mv rfl) FEnt.refl, EvF.of (mv rfl) FEnt.refl, trivial⟩ (fleet_wagonOf_ok H φ v1 v2 _ ey6) (flat_tup' ⟨(flat_agg' (fWagon _)), (flat_agg' (fWagonType _)), flat_eqv, trivial⟩)) ?_
  refine cq rfl rfl rfl (opMove (mv rfl)) ?_
  refine cq rfl rfl rfl (opExtract (mv rfl) rfl) ?_
  refine cq rfl rfl rfl (opExtract (mv rfl) rfl) ?_
  refine cq rfl rfl rfl (opExtract (mv rfl) rfl) ?_
  refine RunOps.cons rfl rfl rfl (opAlloc [.int .i64 0, .int .i64 0, .int .i64 0, .int .i64 0, .int .i64 0] (ze47 H) rfl fun b7 => ?_)
  refine RunOps.cons rfl rfl rfl (opAlloc [.int .i64 0, .int .i64 0, .int .i64 0, .int .i64 0, .int .i64 0, .int .u64 0, .int .i64 0, .int .i64 0] (ze50 H) rfl fun b8 => ?_)
  refine RunOps.cons rfl rfl rfl (opStore 1 (cells := [(iv .i64 0), (iv .i64 0), (iv .i64 0), (iv .i64 0), (iv .i64 0)]) (cs := (eWagon y6.1)) (out := (eWagon y6.1)) (tl47 H) (mv rfl) (Ce.agg (mv rfl)) rfl rfl (Nat.le_of_ble_eq_true rfl) rfl ?_)
  refine RunOps.cons rfl rfl rfl (opStore 2 (cells := [(iv .i64 0), (iv .i64 0), (iv .i64 0), (iv .i64 0), (iv .i64 0), (iv .u64 0), (iv .i64 0), (iv .i64 0)]) (cs := (eWagonType y6.2.1)) (out := (eWagonType y6.2.1)) (tl50 H) (mv rfl) (Ce.agg (mv rfl)) rfl rfl (Nat.le_of_ble_eq_true rfl) rfl ?_)
  refine cq rfl rfl rfl (opAssign (mv rfl)) ?_
  refine rn (al [2, 3, 10, 11] [2] rfl rfl rfl (sq (cs (cs (cr [0, 1] rfl ?_)))))
  refine cq rfl rfl rfl (opMove (mv rfl)) ?_
  refine cq rfl rfl rfl (opNeq (mv rfl) (Ev.const _)) ?_
  refine rn (al [2, 3, 10, 11, 20] [0] rfl rfl rfl (sq ?_))
  refine CodeT.cond (y6.2.2 != 0) (evBool (mv rfl)) (fun c9 => ?_) (fun c9 => ?_)
  · rw [if_pos c9] at h
    refine cs (cr [0, 1] rfl ?_)
    refine cq rfl rfl rfl (opMove (mv rfl)) ?_
    refine cq rfl rfl rfl (opAssign (mv rfl)) ?_
    refine rn (al [8] [] rfl rfl rfl (sq ?_))
    refine CodeT.ret ?_
    refine AtX.then_ret ?_
    refine AtX.ret' (iv .i64 y6.2.2) (ResOK.one Try.results20 rfl) [] [] trivial rfl ?_
    obtain rfl := Option.some.inj h
    exact ⟨rfl, rfl⟩
  · rw [if_neg (bne_true c9)] at h
    refine CodeT.skip ?_
    refine al [2, 3, 10] [0] rfl rfl rfl ?_
    refine sq (cs (cs ?_))
    refine bindE h fun y10 ey10 h => ?_
    refine ckE h fun h15 h => ?_
    refine bindE h fun y23 ey23 h => ?_
    refine CodeT.draw (QR := [(0, (iv .i64 v3)), (1, (bv y10)), (2, (bv (!y10))), (3, (bv (!y10))), (4, (cnd ((!y10) = false) (eqv (.pointer (some ⟨b8, 5, none⟩))))), (5, (cnd ((!y10) = false) (iv .u64 y6.2.1.fClasses))), (6, (cnd ((!y10) = false) (iv .i64 v3))), (7, (cnd ((!y10) = false) (iv .u64 (U (1 * 2 ^ (min (v3 : Int).toNat (IntKind.bits .u64))))))), (8, (cnd ((!y10) = false) (iv .u64 (U ((BitVec.ofInt (IntKind.bits .u64) y6.2.1.fClasses &&& BitVec.ofInt (IntKind.bits .u64) (U (1 * 2 ^ (min (v3 : Int).toNat (IntKind.bits .u64))))).toNat))))), (9, (cnd ((!y10) = false) (bv ((U ((BitVec.ofInt (IntKind.bits .u64) y6.2.1.fClasses &&& BitVec.ofInt (IntKind.bits .u64) (U (1 * 2 ^ (min (v3 : Int).toNat (IntKind.bits .u64))))).toNat)) == 0)))), (10, (bv ((!y10) || ((U ((BitVec.ofInt (IntKind.bits .u64) y6.2.1.fClasses &&& BitVec.ofInt (IntKind.bits .u64) (U (1 * 2 ^ (min (v3 : Int).toNat (IntKind.bits .u64))))).toNat)) == 0)))), (11, (bv ((!y10) || ((U ((BitVec.ofInt (IntKind.bits .u64) y6.2.1.fClasses &&& BitVec.ofInt (IntKind.bits .u64) (U (1 * 2 ^ (min (v3 : Int).toNat (IntKind.bits .u64))))).toNat)) == 0)))), (12, (cnd (((!y10) || ((U ((BitVec.ofInt (IntKind.bits .u64) y6.2.1.fClasses &&& BitVec.ofInt (IntKind.bits .u64) (U (1 * 2 ^ (min (v3 : Int).toNat (IntKind.bits .u64))))).toNat)) == 0)) = false) (iv .i64 v4))), (13, (cnd (((!y10) || ((U ((BitVec.ofInt (IntKind.bits .u64) y6.2.1.fClasses &&& BitVec.ofInt (IntKind.bits .u64) (U (1 * 2 ^ (min (v3 : Int).toNat (IntKind.bits .u64))))).toNat)) == 0)) = false) (eqv (.pointer (some ⟨b8, 0, none⟩))))), (14, (cnd (((!y10) || ((U ((BitVec.ofInt (IntKind.bits .u64) y6.2.1.fClasses &&& BitVec.ofInt (IntKind.bits .u64) (U (1 * 2 ^ (min (v3 : Int).toNat (IntKind.bits .u64))))).toNat)) == 0)) = false) (iv .i64 y6.2.1.fLoad))), (15, (cnd (((!y10) || ((U ((BitVec.ofInt (IntKind.bits .u64) y6.2.1.fClasses &&& BitVec.ofInt (IntKind.bits .u64) (U (1 * 2 ^ (min (v3 : Int).toNat (IntKind.bits .u64))))).toNat)) == 0)) = false) (bv y23))), (16, (cnd (((!y10) || ((U ((BitVec.ofInt (IntKind.bits .u64) y6.2.1.fClasses &&& BitVec.ofInt (IntKind.bits .u64) (U (1 * 2 ^ (min (v3 : Int).toNat (IntKind.bits .u64))))).toNat)) == 0)) = false) (bv (!y23)))), (17, (bv (((!y10) || ((U ((BitVec.ofInt (IntKind.bits .u64) y6.2.1.fClasses &&& BitVec.ofInt (IntKind.bits .u64) (U (1 * 2 ^ (min (v3 : Int).toNat (IntKind.bits .u64))))).toNat)) == 0)) || (!y23))))]) (tab := [(some 22, []), (some 23, [0]), (some 24, [1]), (some 25, [2, 1]), (some 26, [3]), (some 27, [4, 3]), (some 28, [3]), (some 29, [6, 3]), (some 30, [5, 7, 3]), (some 31, [8, 3]), (some 32, [3, 9]), (some 33, [10, 3]), (some 34, [11]), (some 35, [11]), (some 36, [13, 11]), (some 37, [12, 14, 11, 11]), (some 38, [15, 11]), (some 39, [11, 16])]) (mixed H) ?_
    refine Reg.intro [] [] (by kernel_rfl) rfl ⟨rfl, rfl, rfl, rfl, rfl, rfl, rfl, rfl, rfl, rfl, rfl, rfl, rfl, rfl, rfl, rfl, rfl, rfl, trivial⟩ ⟨(fun _ => ⟨_, rfl, (opMove (mv rfl))⟩), (fun _ => ⟨_, rfl, (opCallQ (fnok29 H) (args := [(iv .i64 v3), (iv .i64 0), (iv .i64 63)]) ⟨EvF.of (mv rfl) FEnt.refl, EvF.of (Ev.const _) FEnt.refl, EvF.of (Ev.const _) FEnt.refl, trivial⟩ (fleet_between_ok H φ v3 0 63 _ ey10) flat_eqv)⟩), (fun _ => ⟨_, rfl, (opNot (mv rfl))⟩), (fun _ => ⟨_, rfl, (opMove (mv rfl))⟩), (fun _ => ⟨_, rfl, ⟨((!y10) = false), (eqv (.pointer (some ⟨b8, 5, none⟩))), 25, rfl, rfl, fun g11 => (opFieldP (fo50_5 H) (mv rfl)), .inl ⟨(!y10), rfl, rfl⟩⟩⟩), (fun _ => ⟨_, rfl, ⟨((!y10) = false), (iv .u64 y6.2.1.fClasses), 25, rfl, rfl, fun g12 => (opLoad1 (tl48 H) ((Pt.box 0 (Ev.cnd (mv rfl) g12) rfl rfl).take 1 (cs' := [(iv .u64 y6.2.1.fClasses)]) rfl)), .inl ⟨(!y10), rfl, rfl⟩⟩⟩), (fun _ => ⟨_, rfl, ⟨((!y10) = false), (iv .i64 v3), 25, rfl, rfl, fun g13 => (opMove (mv rfl)), .inl ⟨(!y10), rfl, rfl⟩⟩⟩), (fun _ => ⟨_, rfl, ⟨((!y10) = false), (iv .u64 (U (1 * 2 ^ (min (v3 : Int).toNat (IntKind.bits .u64))))), 25, rfl, rfl, fun g14 => (opShl (Ev.const _) (Ev.cnd (mv rfl) g14) (h15 g14)), .inl ⟨(!y10), rfl, rfl⟩⟩⟩), (fun _ => ⟨_, rfl, ⟨((!y10) = false), (iv .u64 (U ((BitVec.ofInt (IntKind.bits .u64) y6.2.1.fClasses &&& BitVec.ofInt (IntKind.bits .u64) (U (1 * 2 ^ (min (v3 : Int).toNat (IntKind.bits .u64))))).toNat))), 25, rfl, rfl, fun g16 => (opBand (Ev.cnd (mv rfl) g16) (Ev.cnd (mv rfl) g16)), .inl ⟨(!y10), rfl, rfl⟩⟩⟩), (fun _ => ⟨_, rfl, ⟨((!y10) = false), (bv ((U ((BitVec.ofInt (IntKind.bits .u64) y6.2.1.fClasses &&& BitVec.ofInt (IntKind.bits .u64) (U (1 * 2 ^ (min (v3 : Int).toNat (IntKind.bits .u64))))).toNat)) == 0)), 25, rfl, rfl, fun g17 => (opEql (Ev.cnd (mv rfl) g17) (Ev.const _)), .inl ⟨(!y10), rfl, rfl⟩⟩⟩), (fun _ => ⟨_, rfl, (opOr (mv rfl) (Ev.const _) (fun g18 => (Ev.cnd (mv rfl) g18)))⟩), (fun _ => ⟨_, rfl, (opMove (mv rfl))⟩), (fun _ => ⟨_, rfl, ⟨(((!y10) || ((U ((BitVec.ofInt (IntKind.bits .u64) y6.2.1.fClasses &&& BitVec.ofInt (IntKind.bits .u64) (U (1 * 2 ^ (min (v3 : Int).toNat (IntKind.bits .u64))))).toNat)) == 0)) = false), (iv .i64 v4), 33, rfl, rfl, fun g19 => (opMove (mv rfl)), .inl ⟨((!y10) || ((U ((BitVec.ofInt (IntKind.bits .u64) y6.2.1.fClasses &&& BitVec.ofInt (IntKind.bits .u64) (U (1 * 2 ^ (min (v3 : Int).toNat (IntKind.bits .u64))))).toNat)) == 0)), rfl, rfl⟩⟩⟩), (fun _ => ⟨_, rfl, ⟨(((!y10) || ((U ((BitVec.ofInt (IntKind.bits .u64) y6.2.1.fClasses &&& BitVec.ofInt (IntKind.bits .u64) (U (1 * 2 ^ (min (v3 : Int).toNat (IntKind.bits .u64))))).toNat)) == 0)) = false), (eqv (.pointer (some ⟨b8, 0, none⟩))), 33, rfl, rfl, fun g20 => (opFieldP (fo50_0 H) (mv rfl)), .inl ⟨((!y10) || ((U ((BitVec.ofInt (IntKind.bits .u64) y6.2.1.fClasses &&& BitVec.ofInt (IntKind.bits .u64) (U (1 * 2 ^ (min (v3 : Int).toNat (IntKind.bits .u64))))).toNat)) == 0)), rfl, rfl⟩⟩⟩), (fun _ => ⟨_, rfl, ⟨(((!y10) || ((U ((BitVec.ofInt (IntKind.bits .u64) y6.2.1.fClasses &&& BitVec.ofInt (IntKind.bits .u64) (U (1 * 2 ^ (min (v3 : Int).toNat (IntKind.bits .u64))))).toNat)) == 0)) = false), (iv .i64 y6.2.1.fLoad), 33, rfl, rfl, fun g21 => (opLoad1 (tl3 H) ((Pt.box 0 (Ev.cnd (mv rfl) g21) rfl rfl).take 1 (cs' := [(iv .i64 y6.2.1.fLoad)]) rfl)), .inl ⟨((!y10) || ((U ((BitVec.ofInt (IntKind.bits .u64) y6.2.1.fClasses &&& BitVec.ofInt (IntKind.bits .u64) (U (1 * 2 ^ (min (v3 : Int).toNat (IntKind.bits .u64))))).toNat)) == 0)), rfl, rfl⟩⟩⟩), (fun _ => ⟨_, rfl, ⟨(((!y10) || ((U ((BitVec.ofInt (IntKind.bits .u64) y6.2.1.fClasses &&& BitVec.ofInt (IntKind.bits .u64) (U (1 * 2 ^ (min (v3 : Int).toNat (IntKind.bits .u64))))).toNat)) == 0)) = false), (bv y23), 33, rfl, rfl, fun g22 => (opCallQ (fnok29 H) (args := [(iv .i64 v4), (iv .i64 0), (iv .i64 y6.2.1.fLoad)]) ⟨EvF.of (Ev.cnd (mv rfl) g22) FEnt.refl, EvF.of (Ev.const _) FEnt.refl, EvF.of (Ev.cnd (mv rfl) g22) FEnt.refl, trivial⟩ (fleet_between_ok H φ v4 0 y6.2.1.fLoad _ (gcall_pos ey23 g22)) flat_eqv), .inl ⟨((!y10) || ((U ((BitVec.ofInt (IntKind.bits .u64) y6.2.1.fClasses &&& BitVec.ofInt (IntKind.bits .u64) (U (1 * 2 ^ (min (v3 : Int).toNat (IntKind.bits .u64))))).toNat)) == 0)), rfl, rfl⟩⟩⟩), (fun _ => ⟨_, rfl, ⟨(((!y10) || ((U ((BitVec.ofInt (IntKind.bits .u64) y6.2.1.fClasses &&& BitVec.ofInt (IntKind.bits .u64) (U (1 * 2 ^ (min (v3 : Int).toNat (IntKind.bits .u64))))).toNat)) == 0)) = false), (bv (!y23)), 33, rfl, rfl, fun g24 => (opNot (Ev.cnd (mv rfl) g24)), .inl ⟨((!y10) || ((U ((BitVec.ofInt (IntKind.bits .u64) y6.2.1.fClasses &&& BitVec.ofInt (IntKind.bits .u64) (U (1 * 2 ^ (min (v3 : Int).toNat (IntKind.bits .u64))))).toNat)) == 0)), rfl, rfl⟩⟩⟩), (fun _ => ⟨_, rfl, (opOr (mv rfl) (Ev.const _) (fun g25 => (Ev.cnd (mv rfl) g25)))⟩), trivial⟩ trivial (fun _ => ?_)
    refine al [39] [] rfl rfl rfl ?_
    refine sq ?_
    refine CodeT.cond (((!y10) || ((U ((BitVec.ofInt (IntKind.bits .u64) y6.2.1.fClasses &&& BitVec.ofInt (IntKind.bits .u64) (U (1 * 2 ^ (min (v3 : Int).toNat (IntKind.bits .u64))))).toNat)) == 0)) || (!y23)) (evBool (mv rfl)) (fun c26 => ?_) (fun c26 => ?_)
    · rw [if_pos c26] at h
      refine cs (cr [0] rfl ?_)
      refine cq rfl rfl rfl (opAssign (Ev.const _)) ?_
      refine rn (al [8] [] rfl rfl rfl (sq ?_))
      refine CodeT.ret ?_
      refine AtX.then_ret ?_
      refine AtX.ret' (iv .i64 91) (ResOK.one Try.results20 rfl) [] [] trivial rfl ?_
      obtain rfl := Option.some.inj h
      exact ⟨rfl, rfl⟩
    · rw [if_neg (bne_true c26)] at h
      refine CodeT.skip ?_
      refine al [] [] rfl rfl rfl ?_
      refine sq (cs (cr [0] rfl ?_))
      refine cq rfl rfl rfl (opAssign (Ev.const _)) ?_
      refine rn (al [8] [] rfl rfl rfl (sq ?_))
      refine CodeT.ret ?_
      refine AtX.ret' (iv .i64 0) (ResOK.one Try.results20 rfl) [] [] trivial rfl ?_
      obtain rfl := Option.some.inj h
      exact ⟨rfl, rfl⟩
theorem ref09_Fits_ok {P : Program} (H : P = Try.prog) (φ : Nat) (v1 : Fleet) (v2 : Int) (v3 : Int) (v4 : Int) (r : (Int)) (h : ref09_Fits φ v1 v2 v3 v4 = some r) : PureT P 21 [(agg (eFleet v1)), (iv .i64 v2), (iv .i64 v3), (iv .i64 v4)] (fun x news => x = (iv .i64 r) ∧ news = []) := by
  unfold ref09_Fits at h
  refine PureT.of_code' 51 (fn21 H) rfl rfl (Nat.le_of_ble_eq_true rfl) fun w0 base r0 wI => ?_
  refine cl [0, 1, 2, 3] [] rfl rfl rfl ?_
  refine cs (cr [0, 1] rfl ?_)
  refine RunOps.cons rfl rfl rfl (opBox (cs := (eFleet v1)) (Ce.agg (mv rfl)) fun b5 => ?_)
  refine cq rfl rfl rfl (opAssign (Ev.const _)) ?_
  refine rn (al [1, 2, 3, 4] [0] rfl rfl rfl (sq (cs (cr [0, 1, 2] rfl ?_))))
  refine RunOps.cons_q (agg (eFleet v1)) rfl rfl rfl (opLoadN (tl27 H) ((Pt.box 0 (mv rfl) rfl rfl).take 4 (cs' := (eFleet v1)) rfl)) ?_
  refine bindE h fun y6 ey6 h => ?_
  refine cq rfl rfl rfl (opCallQ (fnok19 H) (args := [(agg (eFleet v1))]) ⟨EvF.of (mv rfl) FEnt.refl, trivial⟩ (ref09_Check_ok H φ v1 _ ey6) flat_eqv) ?_
  refine cq rfl rfl rfl (opAssign (mv rfl)) ?_
  refine rn (al [1, 2, 3, 4, 9] [0] rfl rfl rfl (sq (cs (cs (cr [0, 1] rfl ?_)))))
  refine cq rfl rfl rfl (opMove (mv rfl)) ?_
  refine cq rfl rfl rfl (opNeq (mv rfl) (Ev.const _)) ?_
  refine rn (al [1, 2, 3, 4, 9, 14] [0] rfl rfl rfl (sq ?_))
  refine CodeT.cond (y6 != 0) (evBool (mv rfl)) (fun c7 => ?_) (fun c7 => ?_)
  · rw [if_pos c7] at h
    refine cs (cr [0, 1] rfl ?_)
    refine cq rfl rfl rfl (opMove (mv rfl)) ?_
    refine cq rfl rfl rfl (opAssign (mv rfl)) ?_
    refine rn (al [8] [] rfl rfl rfl (sq ?_))
    refine CodeT.ret ?_
    refine AtX.then_ret ?_
    refine AtX.ret' (iv .i64 y6) (ResOK.one Try.results21 rfl) [] [] trivial rfl ?_
    obtain rfl := Option.some.inj h
    exact ⟨rfl, rfl⟩
  · rw [if_neg (bne_true c7)] at h
    refine CodeT.skip ?_
    refine al [1, 2, 3, 4] [0] rfl rfl rfl ?_
    refine sq (cs (cs (cr [0, 1, 2, 3, 4, 5, 6] rfl ?_)))
    refine cq rfl rfl rfl (opMove (mv rfl)) ?_
    refine cq rfl rfl rfl (opFieldP (fo27_1 H) (mv rfl)) ?_
    refine cq rfl rfl rfl (opLoad1 (tl23 H) ((Pt.box 0 (mv rfl) rfl rfl).take 1 (cs' := [(ro eWagon 5 v1.fWagons)]) rfl)) ?_
    refine cq rfl rfl rfl (opLenR (il23 H) (mv rfl)) ?_
    refine cq rfl rfl rfl (opSub (mv rfl) (Ev.const _)) ?_
    refine bindE h fun y8 ey8 h => ?_
    refine cq rfl rfl rfl (opCallQ (fnok30 H) (args := [(iv .i64 v2), (iv .i64 0), (iv .i64 (W ((v1.fWagons.length : Int) - 1)))]) ⟨EvF.of (mv rfl) FEnt.refl, EvF.of (Ev.const _) FEnt.refl, EvF.of (mv rfl) FEnt.refl, trivial⟩ (ref09_within_ok H φ v2 0 (W ((v1.fWagons.length : Int) - 1)) _ ey8) flat_eqv) ?_
    refine cq rfl rfl rfl (opNot (mv rfl)) ?_
    refine rn (al [1, 2, 3, 4, 22] [0] rfl rfl rfl (sq ?_))
    refine CodeT.cond (!y8) (evBool (mv rfl)) (fun c9 => ?_) (fun c9 => ?_)
    · rw [if_pos c9] at h
      refine cs (cr [0] rfl ?_)
      refine cq rfl rfl rfl (opAssign (Ev.const _)) ?_
      refine rn (al [8] [] rfl rfl rfl (sq ?_))
      refine CodeT.ret ?_
      refine AtX.then_ret ?_
      refine AtX.ret' (iv .i64 90) (ResOK.one Try.results21 rfl) [] [] trivial rfl ?_
      obtain rfl := Option.some.inj h
      exact ⟨rfl, rfl⟩
    · rw [if_neg (bne_true c9)] at h
      refine CodeT.skip ?_
      refine al [1, 2, 3, 4] [0] rfl rfl rfl ?_
      refine sq (cs ?_)
      refine ckE h fun h10 h => ?_
      refine ckE h fun h11 h => ?_
      refine CodeT.draw (QR := [(0, (eqv (.pointer (some ⟨b5, 0, none⟩)))), (1, (ro eWagonType 8 v1.fTypes)), (2, (eqv (.pointer (some ⟨b5, 1, none⟩)))), (3, (ro eWagon 5 v1.fWagons)), (4, (iv .i64 v2)), (5, (rop (eWagon (gt v1.fWagons v2)))), (6, (rop [(iv .i64 ((gt v1.fWagons v2).fType))])), (7, (iv .i64 ((gt v1.fWagons v2).fType))), (8, (rop (eWagonType (gt v1.fTypes ((gt v1.fWagons v2).fType))))), (9, (agg (eWagonType (gt v1.fTypes ((gt v1.fWagons v2).fType)))))]) (tab := [(some 23, []), (some 24, [0]), (some 25, []), (some 26, [2]), (some 27, []), (some 28, [3, 4]), (some 29, [5]), (some 30, [6]), (some 31, [1, 7]), (some 32, [8]), (some 10, []), (none, [10, 9, 0, 1, 2, 3, 4, 5, 6, 7, 8, 9, 10])]) (mixed H) ?_
      refine Reg.intro [10] [] (by kernel_rfl) rfl ⟨rfl, rfl, rfl, rfl, rfl, rfl, rfl, rfl, rfl, rfl, trivial⟩ ⟨(fun _ => ⟨_, rfl, (opFieldP (fo27_0 H) (mv rfl))⟩), (fun _ => ⟨_, rfl, (opLoad1 (tl22 H) ((Pt.box 0 (mv rfl) rfl rfl).take 1 (cs' := [(ro eWagonType 8 v1.fTypes)]) rfl))⟩), (fun _ => ⟨_, rfl, (opFieldP (fo27_1 H) (mv rfl))⟩), (fun _ => ⟨_, rfl, (opLoad1 (tl23 H) ((Pt.box 0 (mv rfl) rfl rfl).take 1 (cs' := [(ro eWagon 5 v1.fWagons)]) rfl))⟩), (fun _ => ⟨_, rfl, (opMove (mv rfl))⟩), (fun _ => ⟨_, rfl, (opIndexR (e := eWagon) (y := (gt v1.fWagons v2)) (ix23 H) (mv rfl) (mv rfl) (h10).1 (gt_some h10))⟩), (fun _ => ⟨_, rfl, (opFieldRT (fo47_0 H) (mv rfl) (cs' := [(iv .i64 ((gt v1.fWagons v2).fType))]) 1 rfl)⟩), (fun _ => ⟨_, rfl, (opLoad1 (tl3 H) (Pt.rop (mv rfl)))⟩), (fun _ => ⟨_, rfl, (opIndexR (e := eWagonType) (y := (gt v1.fTypes ((gt v1.fWagons v2).fType))) (ix22 H) (mv rfl) (mv rfl) (h11).1 (gt_some h11))⟩), (fun _ => ⟨_, rfl, (opLoadN (tl50 H) (Pt.rop (mv rfl)))⟩), trivial⟩ ⟨⟨_, rfl, rfl, rfl, rfl, opAlloc [.int .i64 0, .int .i64 0, .int .i64 0, .int .i64 0, .int .i64 0, .int .u64 0, .int .i64 0, .int .i64 0] (ze50 H) rfl fun b14 => ⟨[], rfl, ?_⟩⟩, trivial⟩ (fun hc => Bool.noConfusion (hc : false = true))
      refine Reg.intro [11] [] (by kernel_rfl) rfl ⟨rfl, rfl, rfl, rfl, rfl, rfl, rfl, rfl, rfl, rfl, trivial⟩ ⟨(fun _ => ⟨_, rfl, (opFieldP (fo27_0 H) (mv rfl))⟩), (fun _ => ⟨_, rfl, (opLoad1 (tl22 H) ((Pt.box 0 (mv rfl) rfl rfl).take 1 (cs' := [(ro eWagonType 8 v1.fTypes)]) rfl))⟩), (fun _ => ⟨_, rfl, (opFieldP (fo27_1 H) (mv rfl))⟩), (fun _ => ⟨_, rfl, (opLoad1 (tl23 H) ((Pt.box 0 (mv rfl) rfl rfl).take 1 (cs' := [(ro eWagon 5 v1.fWagons)]) rfl))⟩), (fun _ => ⟨_, rfl, (opMove (mv rfl))⟩), (fun _ => ⟨_, rfl, (opIndexR (e := eWagon) (y := (gt v1.fWagons v2)) (ix23 H) (mv rfl) (mv rfl) (h10).1 (gt_some h10))⟩), (fun _ => ⟨_, rfl, (opFieldRT (fo47_0 H) (mv rfl) (cs' := [(iv .i64 ((gt v1.fWagons v2).fType))]) 1 rfl)⟩), (fun _ => ⟨_, rfl, (opLoad1 (tl3 H) (Pt.rop (mv rfl)))⟩), (fun _ => ⟨_, rfl, (opIndexR (e := eWagonType) (y := (gt v1.fTypes ((gt v1.fWagons v2).fType))) (ix22 H) (mv rfl) (mv rfl) (h11).1 (gt_some h11))⟩), (fun _ => ⟨_, rfl, (opLoadN (tl50 H) (Pt.rop (mv rfl)))⟩), trivial⟩ ⟨⟨_, rfl, rfl, rfl, rfl, opStore 1 (cells := [(iv .i64 0), (iv .i64 0), (iv .i64 0), (iv .i64 0), (iv .i64 0), (iv .u64 0), (iv .i64 0), (iv .i64 0)]) (cs := (eWagonType (gt v1.fTypes ((gt v1.fWagons v2).fType)))) (out := (eWagonType (gt v1.fTypes ((gt v1.fWagons v2).fType)))) (tl50 H) (mv rfl) (Ce.agg (mv rfl)) rfl rfl (Nat.le_of_ble_eq_true rfl) rfl ⟨[], rfl, ?_⟩⟩, trivial⟩ (fun hc => Bool.noConfusion (hc : false = true))
      refine Reg.intro [] [0, 1, 2, 3, 4, 5, 6, 7, 8, 9] (by kernel_rfl) rfl ⟨rfl, rfl, rfl, rfl, rfl, rfl, rfl, rfl, rfl, rfl, trivial⟩ ⟨(fun hn => Bool.noConfusion (hn : true = false)), (fun hn => Bool.noConfusion (hn : true = false)), (fun hn => Bool.noConfusion (hn : true = false)), (fun hn => Bool.noConfusion (hn : true = false)), (fun hn => Bool.noConfusion (hn : true = false)), (fun hn => Bool.noConfusion (hn : true = false)), (fun hn => Bool.noConfusion (hn : true = false)), (fun hn => Bool.noConfusion (hn : true = false)), (fun hn => Bool.noConfusion (hn : true = false)), (fun hn => Bool.noConfusion (hn : true = false)), trivial⟩ trivial (fun _ => ?_)
      refine al [2, 3, 10] [1] rfl rfl rfl ?_
      refine sq (cs (cs (cr [0, 1, 2, 3, 4, 5, 6, 7, 8, 9, 10, 11, 12, 13, 14, 15, 16, 17] rfl ?_)))
      refine cq rfl rfl rfl (opMove (mv rfl)) ?_
      refine bindE h fun y16 ey16 h => ?_
      refine cq rfl rfl rfl (opCallQ (fnok30 H) (args := [(iv .i64 v3), (iv .i64 0), (iv .i64 63)]) ⟨EvF.of (mv rfl) FEnt.refl, EvF.of (Ev.const _) FEnt.refl, EvF.of (Ev.const _) FEnt.refl, trivial⟩ (ref09_within_ok H φ v3 0 63 _ ey16) flat_eqv) ?_
      refine cq rfl rfl rfl (opNot (mv rfl)) ?_
      refine cq rfl rfl rfl (opMove (mv rfl)) ?_
      refine cg rfl rfl rfl rfl rfl (fun g17 => opFieldP (fo50_5 H) (mv rfl)) ?_
      refine cg rfl rfl rfl rfl rfl (fun g18 => opLoad1 (tl48 H) ((Pt.box 0 (Ev.cnd (mv rfl) g18) rfl rfl).take 1 (cs' := [(iv .u64 ((gt v1.fTypes ((gt v1.fWagons v2).fType)).fClasses))]) rfl)) ?_
      refine cg rfl rfl rfl rfl rfl (fun g19 => opMove (mv rfl)) ?_
      refine ckE h fun h21 h => ?_
      refine cg rfl rfl rfl rfl rfl (fun g20 => opShr (Ev.cnd (mv rfl) g20) (Ev.cnd (mv rfl) g20) (h21 g20)) ?_
      refine cg rfl rfl rfl rfl rfl (fun g22 => opBand (Ev.cnd (mv rfl) g22) (Ev.const _)) ?_
      refine cg rfl rfl rfl rfl rfl (fun g23 => opEql (Ev.cnd (mv rfl) g23) (Ev.const _)) ?_
      refine cq rfl rfl rfl (opOr (mv rfl) (Ev.const _) (fun g24 => (Ev.cnd (mv rfl) g24))) ?_
      refine cq rfl rfl rfl (opMove (mv rfl)) ?_
      refine cg rfl rfl rfl rfl rfl (fun g25 => opMove (mv rfl)) ?_
      refine cg rfl rfl rfl rfl rfl (fun g26 => opFieldP (fo50_0 H) (mv rfl)) ?_
      refine cg rfl rfl rfl rfl rfl (fun g27 => opLoad1 (tl3 H) ((Pt.box 0 (Ev.cnd (mv rfl) g27) rfl rfl).take 1 (cs' := [(iv .i64 ((gt v1.fTypes ((gt v1.fWagons v2).fType)).fLoad))]) rfl)) ?_
      refine bindE h fun y29 ey29 h => ?_
      refine cg rfl rfl rfl rfl rfl (fun g28 => opCallQ (fnok30 H) (args := [(iv .i64 v4), (iv .i64 0), (iv .i64 ((gt v1.fTypes ((gt v1.fWagons v2).fType)).fLoad))]) ⟨EvF.of (Ev.cnd (mv rfl) g28) FEnt.refl, EvF.of (Ev.const _) FEnt.refl, EvF.of (Ev.cnd (mv rfl) g28) FEnt.refl, trivial⟩ (ref09_within_ok H φ v4 0 ((gt v1.fTypes ((gt v1.fWagons v2).fType)).fLoad) _ (gcall_pos ey29 g28)) flat_eqv) ?_
      refine cg rfl rfl rfl rfl rfl (fun g30 => opNot (Ev.cnd (mv rfl) g30)) ?_
      refine cq rfl rfl rfl (opOr (mv rfl) (Ev.const _) (fun g31 => (Ev.cnd (mv rfl) g31))) ?_
      refine rn (al [50] [] rfl rfl rfl (sq ?_))
      refine CodeT.cond (((!y16) || ((U ((BitVec.ofInt (IntKind.bits .u64) (((gt v1.fTypes ((gt v1.fWagons v2).fType)).fClasses).fdiv (2 ^ (min (v3 : Int).toNat (IntKind.bits .u64)))) &&& BitVec.ofInt (IntKind.bits .u64) 1).toNat)) == 0)) || (!y29)) (evBool (mv rfl)) (fun c32 => ?_) (fun c32 => ?_)
      · rw [if_pos c32] at h
        refine cs (cr [0] rfl ?_)
        refine cq rfl rfl rfl (opAssign (Ev.const _)) ?_
        refine rn (al [8] [] rfl rfl rfl (sq ?_))
        refine CodeT.ret ?_
        refine AtX.then_ret ?_
        refine AtX.ret' (iv .i64 91) (ResOK.one Try.results21 rfl) [] [] trivial rfl ?_
        obtain rfl := Option.some.inj h
        exact ⟨rfl, rfl⟩
      · rw [if_neg (bne_true c32)] at h
        refine CodeT.skip ?_
        refine al [] [] rfl rfl rfl ?_
        refine sq (cs (cr [0] rfl ?_))
        refine cq rfl rfl rfl (opAssign (Ev.const _)) ?_
        refine rn (al [8] [] rfl rfl rfl (sq ?_))
        refine CodeT.ret ?_
        refine AtX.ret' (iv .i64 0) (ResOK.one Try.results21 rfl) [] [] trivial rfl ?_
        obtain rfl := Option.some.inj h
        exact ⟨rfl, rfl⟩
theorem fleet_Given_ok {P : Program} (H : P = Try.prog) (φ : Nat) (v1 : Fleet) (v2 : Int) (r : ((List Swap) × Int)) (h : fleet_Given φ v1 v2 = some r) : PureT P 12 [(agg (eFleet v1)), (iv .i64 v2)] (K_fleet_Given r) := by
  unfold fleet_Given at h
  refine PureT.of_code' 96 (fn12 H) rfl rfl (Nat.le_of_ble_eq_true rfl) fun w0 base r0 wI => ?_
  refine cl [0, 1] [] rfl rfl rfl ?_
  refine cs ?_
  refine CodeT.addNil 43 eSwap 3 ?_
  refine cr [0, 1, 2] rfl ?_
  refine RunOps.cons rfl rfl rfl (opBox (cs := (eFleet v1)) (Ce.agg (mv rfl)) fun b3 => ?_)
  refine cq rfl rfl rfl (opAssign (Ev.const _)) ?_
  refine cq rfl rfl rfl (opAssign (Ev.const _)) ?_
  refine rn (al [1, 2] [1] rfl rfl rfl (sq (cs (cs (cr [0, 1, 2] rfl ?_)))))
  refine RunOps.cons_q (agg (eFleet v1)) rfl rfl rfl (opLoadN (tl27 H) ((Pt.box 0 (mv rfl) rfl rfl).take 4 (cs' := (eFleet v1)) rfl)) ?_
  refine bindE h fun y4 ey4 h => ?_
  refine cq rfl rfl rfl (opCallQ (fnok18 H) (args := [(agg (eFleet v1))]) ⟨EvF.of (mv rfl) FEnt.refl, trivial⟩ (fleet_Check_ok H φ v1 _ ey4) flat_eqv) ?_
  refine cq rfl rfl rfl (opAssign (mv rfl)) ?_
  refine rn (al [1, 2, 6] [0] rfl rfl rfl (sq (cs (cr [0, 1] rfl ?_))))
  refine cq rfl rfl rfl (opMove (mv rfl)) ?_
  refine cq rfl rfl rfl (opNeq (mv rfl) (Ev.const _)) ?_
  refine rn (al [1, 2, 6, 18] [0] rfl rfl rfl (sq ?_))
  refine CodeT.cond (y4 != 0) (evBool (mv rfl)) (fun c5 => ?_) (fun c5 => ?_)
  · rw [if_pos c5] at h
    refine cs ?_
    refine CodeT.addNil 43 eSwap 3 ?_
    refine cr [0, 1, 2] rfl ?_
    refine cq rfl rfl rfl (opMove (mv rfl)) ?_
    refine cq rfl rfl rfl (opAssign (Ev.const _)) ?_
    refine cq rfl rfl rfl (opAssign (mv rfl)) ?_
    refine rn (al [4, 5] [1] rfl rfl rfl (sq ?_))
    refine CodeT.ret ?_
    refine AtX.then_ret ?_
    refine AtX.ret' (tupv [(eqv (Value.slice none 0 0)), (iv .i64 y4)]) (ResOK.two Try.results12 rfl rfl) [0] [(row 43 eSwap 3 ([] : List Swap) (Value.slice none 0 0))] (ol rfl) rfl ?_
    obtain rfl := Option.some.inj h
    exact ⟨(Value.slice none 0 0), rfl, rfl⟩
  · rw [if_neg (bne_true c5)] at h
    refine CodeT.skip ?_
    refine al [1, 2] [0] rfl rfl rfl ?_
    refine sq (cs (cs (cr [0, 1, 2, 3, 4, 5, 6] rfl ?_)))
    refine cq rfl rfl rfl (opMove (mv rfl)) ?_
    refine cq rfl rfl rfl (opFieldP (fo27_0 H) (mv rfl)) ?_
    refine cq rfl rfl rfl (opLoad1 (tl22 H) ((Pt.box 0 (mv rfl) rfl rfl).take 1 (cs' := [(ro eWagonType 8 v1.fTypes)]) rfl)) ?_
    refine cq rfl rfl rfl (opLenR (il22 H) (mv rfl)) ?_
    refine cq rfl rfl rfl (opSub (mv rfl) (Ev.const _)) ?_
    refine bindE h fun y6 ey6 h => ?_
    refine cq rfl rfl rfl (opCallQ (fnok29 H) (args := [(iv .i64 v2), (iv .i64 0), (iv .i64 (W ((v1.fTypes.length : Int) - 1)))]) ⟨EvF.of (mv rfl) FEnt.refl, EvF.of (Ev.const _) FEnt.refl, EvF.of (mv rfl) FEnt.refl, trivial⟩ (fleet_between_ok H φ v2 0 (W ((v1.fTypes.length : Int) - 1)) _ ey6) flat_eqv) ?_
    refine cq rfl rfl rfl (opNot (mv rfl)) ?_
    refine rn (al [1, 2, 26] [0] rfl rfl rfl (sq ?_))
    refine CodeT.cond (!y6) (evBool (mv rfl)) (fun c7 => ?_) (fun c7 => ?_)
    · rw [if_pos c7] at h
      refine cs ?_
      refine CodeT.addNil 43 eSwap 3 ?_
      refine cr [0, 1] rfl ?_
      refine cq rfl rfl rfl (opAssign (Ev.const _)) ?_
      refine cq rfl rfl rfl (opAssign (Ev.const _)) ?_
      refine rn (al [4, 5] [1] rfl rfl rfl (sq ?_))
      refine CodeT.ret ?_
      refine AtX.then_ret ?_
      refine AtX.ret' (tupv [(eqv (Value.slice none 0 0)), (iv .i64 90)]) (ResOK.two Try.results12 rfl rfl) [0] [(row 43 eSwap 3 ([] : List Swap) (Value.slice none 0 0))] (ol rfl) rfl ?_
      obtain rfl := Option.some.inj h
      exact ⟨(Value.slice none 0 0), rfl, rfl⟩
    · rw [if_neg (bne_true c7)] at h
      refine CodeT.skip ?_
      refine al [1, 2] [0] rfl rfl rfl ?_
      refine sq (cs (cr [0] rfl ?_))
      refine RunOps.cons rfl rfl rfl (opAllocA (e := eI64) 0 [.int .i64 0] (za83 H) rfl rfl fun b8 => ?_)
      refine rn (al [1, 2, 7] [0, 1] rfl rfl rfl (sq (cs (cs (cr [0] rfl ?_)))))
      refine cq rfl rfl rfl (opMove (Ev.const _)) ?_
      refine rn (al [1, 2, 7, 27] [0, 1] rfl rfl rfl (sq ?_))
      refine CodeT.join (fun z : (Nat → Int) => (fleet_Given_j10 φ v1 v2) z) r (fun z => ⟨Slots.of [(1, (iv .i64 v2)), (2, (eqv (.pointer (some ⟨b3, 0, none⟩)))), (7, (eqv (.pointer (some ⟨b8, 0, none⟩))))], [(box b3 27 (eFleet v1)), (box b8 83 ([] ++ arr 32 eI64 z ++ []))]⟩) (fun v9 h => ?_) (fun hJ10 => ?_)
      · replace h : (fleet_Given_j10 φ v1 v2) v9 = some r := h
        unfold fleet_Given_j10 at h
        refine al [1, 2, 7] [0, 1] rfl rfl rfl ?_
        refine sq (cs (cr [0, 1, 2] rfl ?_))
        refine cq rfl rfl rfl (opMove (mv rfl)) ?_
        refine ckE h fun h11 h => ?_
        refine cq rfl rfl rfl (opIndexA (ix83 H) (mv rfl) (mv rfl) (h11).1 (h11).2) ?_
        refine RunOps.cons rfl rfl rfl (opStore 1 (off := 0 + (v2 : Int).toNat * 1) (cells := ([] ++ arr 32 eI64 v9 ++ [])) (cs := [(iv .i64 0)]) (out := ([] ++ arr 32 eI64 (upd v9 ((v2 : Int).toNat) 0) ++ [])) (tl3 H) (mv rfl) (Ce.one (Ev.const _) (One.eqv rfl)) rfl rfl (arr_bound (k := (v2 : Int).toNat) lI64 (by have hb0 := h11; simp only [List.length_nil, List.length_cons] <;> omega) (by have hb0 := h11; omega) rfl) (arr_splice (k := (v2 : Int).toNat) lI64 (by have hb0 := h11; simp only [List.length_nil, List.length_cons] <;> omega) (by have hb0 := h11; omega) rfl rfl) ?_)
        refine rn (al [1, 2, 7] [0, 1] rfl rfl rfl (sq (cs (cs (cr [0] rfl ?_)))))
        refine cq rfl rfl rfl (opAssign (Ev.const _)) ?_
        refine rn (al [1, 2, 7, 9] [0, 1] rfl rfl rfl (sq ?_))
        refine CodeT.join (fun z : (Nat → Int) => (fleet_Given_j13 φ v1 v2) z) r (fun z => ⟨Slots.of [(1, (iv .i64 v2)), (2, (eqv (.pointer (some ⟨b3, 0, none⟩)))), (7, (eqv (.pointer (some ⟨b8, 0, none⟩))))], [(box b3 27 (eFleet v1)), (box b8 83 ([] ++ arr 32 eI64 z ++ []))]⟩) (fun v12 h => ?_) (fun hJ13 => ?_)
        · replace h : (fleet_Given_j13 φ v1 v2) v12 = some r := h
          unfold fleet_Given_j13 at h
          refine al [1, 2, 7] [0, 1] rfl rfl rfl ?_
          refine sq (cs ?_)
          refine CodeT.addNil 43 eSwap 3 ?_
          refine cr [0] rfl ?_
          refine cq rfl rfl rfl (opAssign (Ev.const _)) ?_
          refine rn (al [1, 2, 7, 13] [0, 1, 2] rfl rfl rfl (sq (cs (cs (cr [0, 1, 2, 3] rfl ?_)))))
          refine cq rfl rfl rfl (opFieldP (fo27_0 H) (mv rfl)) ?_
          refine cq rfl rfl rfl (opLoad1 (tl22 H) ((Pt.box 0 (mv rfl) rfl rfl).take 1 (cs' := [(ro eWagonType 8 v1.fTypes)]) rfl)) ?_
          refine cq rfl rfl rfl (opLenR (il22 H) (mv rfl)) ?_
          refine cq rfl rfl rfl (opMove (Ev.const _)) ?_
          refine rn (al [1, 7, 13, 77, 78] [1, 2] rfl rfl rfl (sq ?_))
          refine CodeT.join (fun z : (List Swap) × Value => (fleet_Given_j16 φ) z.1) r (fun z => ⟨Slots.of [(13, (eqv z.2))], [(row 43 eSwap 3 z.1 z.2)]⟩) (fun z h => ?_) (fun hJ16 => ?_)
          · obtain ⟨v14, sv15⟩ := z
            replace h : (fleet_Given_j16 φ) v14 = some r := h
            unfold fleet_Given_j16 at h
            refine al [13] [0] rfl rfl rfl ?_
            refine sq (cs (cr [0, 1, 2] rfl ?_))
            refine cq rfl rfl rfl (opMove (mv rfl)) ?_
            refine cq rfl rfl rfl (opAssign (mv rfl)) ?_
            refine cq rfl rfl rfl (opAssign (Ev.const _)) ?_
            refine rn (al [4, 5] [0] rfl rfl rfl (sq ?_))
            refine CodeT.ret ?_
            refine AtX.ret' (tupv [(eqv sv15), (iv .i64 0)]) (ResOK.two Try.results12 rfl rfl) [0] [(row 43 eSwap 3 v14 sv15)] (ol rfl) rfl ?_
            obtain rfl := Option.some.inj h
            exact ⟨sv15, rfl, rfl⟩
          · refine CodeT.block ?_
            refine CodeT.to (CodeT.loop (fun n (z : Int × (List Swap) × Value) => fleet_Given_L20 φ v1 v2 v12 (fleet_Given_j16 φ) n z.1 z.2.1) r (fun z => ⟨Slots.of [(1, (iv .i64 v2)), (7, (eqv (.pointer (some ⟨b8, 0, none⟩)))), (13, (eqv z.2.2)), (77, (iv .i64 (v1.fTypes.length : Int))), (78, (iv .i64 z.1))], [(box b8 83 ([] ++ arr 32 eI64 v12 ++ [])), (row 43 eSwap 3 z.2.1 z.2.2)]⟩) (fun z => rfl) (fun n20 z ih20 h => ?_) φ (0, ([] : List Swap), (Value.slice none 0 0)) h) [0, 1] (sl rfl) (ol rfl) rfl
            obtain ⟨v17, v18, sv19⟩ := z
            replace h : fleet_Given_L20 φ v1 v2 v12 (fleet_Given_j16 φ) (n20 + 1) v17 v18 = some r := h
            rw [fleet_Given_L20] at h
            refine cs (cr [0] rfl ?_)
            refine cq rfl rfl rfl (opLss (mv rfl) (mv rfl)) ?_
            refine rn (al [1, 7, 13, 77, 78, 79] [0, 1] rfl rfl rfl (sq (cs ?_)))
            refine CodeT.cond (decide (v17 < (v1.fTypes.length : Int))) (evBool (mv rfl)) (fun c21 => ?_) (fun c21 => ?_)
            · rw [if_pos c21] at h
              refine CodeT.skip ?_
              refine al [1, 7, 13, 77, 78] [0, 1] rfl rfl rfl ?_
              refine sq (cs ?_)
              refine CodeT.block ?_
              refine cs (cr [0, 1] rfl ?_)
              refine cq rfl rfl rfl (opMove (mv rfl)) ?_
              refine cq rfl rfl rfl (opAssign (mv rfl)) ?_
              refine rn (al [1, 7, 13, 14, 77, 78] [0, 1] rfl rfl rfl (sq (cs (cr [0, 1, 2, 3] rfl ?_))))
              refine cq rfl rfl rfl (opMove (mv rfl)) ?_
              refine ckE h fun h22 h => ?_
              refine cq rfl rfl rfl (opIndexA (ix83 H) (mv rfl) (mv rfl) (h22).1 (h22).2) ?_
              refine cq rfl rfl rfl (opLoad1 (tl3 H) (Pt.ofArr (e := eI64) 0 (off := 0 + (v17 : Int).toNat * 1) (k := (v17 : Int).toNat) (mv rfl) rfl lI64 (by have hb0 := h22; simp only [List.length_nil, List.length_cons] <;> omega) (by have hb0 := h22; omega))) ?_
              refine cq rfl rfl rfl (opGeq (mv rfl) (Ev.const _)) ?_
              refine rn (al [1, 7, 13, 14, 77, 78, 84] [0, 1] rfl rfl rfl (sq ?_))
              refine CodeT.join (fun z : (List Swap) × Value => (fleet_Given_j25 φ v17 (fleet_Given_L20 φ v1 v2 v12 (fleet_Given_j16 φ) n20)) z.1) r (fun z => ⟨Slots.of [(1, (iv .i64 v2)), (7, (eqv (.pointer (some ⟨b8, 0, none⟩)))), (13, (eqv z.2)), (77, (iv .i64 (v1.fTypes.length : Int))), (78, (iv .i64 v17))], [(box b8 83 ([] ++ arr 32 eI64 v12 ++ [])), (row 43 eSwap 3 z.1 z.2)]⟩) (fun z h => ?_) (fun hJ25 => ?_)
              · obtain ⟨v23, sv24⟩ := z
                replace h : (fleet_Given_j25 φ v17 (fleet_Given_L20 φ v1 v2 v12 (fleet_Given_j16 φ) n20)) v23 = some r := h
                unfold fleet_Given_j25 at h
                refine AtX.in_normal ?_
                refine al [1, 7, 13, 77, 78] [0, 1] rfl rfl rfl ?_
                refine sq (cr [0, 1] rfl ?_)
                refine cq rfl rfl rfl (opAdd (mv rfl) (Ev.const _)) ?_
                refine cq rfl rfl rfl (opMove (mv rfl)) ?_
                refine rn ?_
                exact AtX.to (ih20 ((W (v17 + 1)), v23, sv24) h) [0, 1] (sl rfl) (ol rfl) rfl
              · refine CodeT.cond (decide (0 ≤ (v12 ((v17 : Int).toNat)))) (evBool (mv rfl)) (fun c26 => ?_) (fun c26 => ?_)
                · rw [if_pos c26] at h
                  refine cr [0, 1, 2, 3, 4, 5, 6, 7, 8, 9] rfl ?_
                  refine cq rfl rfl rfl (opMove (mv rfl)) ?_
                  refine cq rfl rfl rfl (opMove (mv rfl)) ?_
                  refine cq rfl rfl rfl (opMove (mv rfl)) ?_
                  refine cq rfl rfl rfl (opMove (mv rfl)) ?_
                  refine cq rfl rfl rfl (opIndexA (ix83 H) (mv rfl) (mv rfl) (h22).1 (h22).2) ?_
                  refine cq rfl rfl rfl (opLoad1 (tl3 H) (Pt.ofArr (e := eI64) 0 (off := 0 + (v17 : Int).toNat * 1) (k := (v17 : Int).toNat) (mv rfl) rfl lI64 (by have hb0 := h22; simp only [List.length_nil, List.length_cons] <;> omega) (by have hb0 := h22; omega))) ?_
                  refine cq rfl rfl rfl (opBuild [.int .i64 0, .int .i64 0, .int .i64 0] [(0, [(iv .i64 v2)]), (1, [(iv .i64 v17)]), (2, [(iv .i64 (v12 ((v17 : Int).toNat)))])] (out := [(iv .i64 v2), (iv .i64 v17), (iv .i64 (v12 ((v17 : Int).toNat)))]) (ze43 H) rfl (tb43 H) ⟨(tp43_0 H), Nat.le_of_ble_eq_true rfl, (Ce.one (mv rfl) (One.eqv rfl)), ⟨(tp43_1 H), Nat.le_of_ble_eq_true rfl, (Ce.one (mv rfl) (One.eqv rfl)), ⟨(tp43_2 H), Nat.le_of_ble_eq_true rfl, (Ce.one (mv rfl) (One.eqv rfl)), trivial⟩⟩⟩ rfl) ?_
                  refine RunOps.cons rfl rfl rfl (opBuildSlice (e := eSwap) [(Swap.mk v2 v17 (v12 ((v17 : Int).toNat)))] (sl24 H) lSwap rfl (by decide) ⟨rfl, (Ce.agg (mv rfl)), trivial⟩ fun sv27 => ?_)
                  refine ckE h fun h28 h => ?_
                  refine RunOps.cons rfl rfl rfl (opAppend 1 (l := v18) (m := [(Swap.mk v2 v17 (v12 ((v17 : Int).toNat)))]) (sl24 H) lSwap (mv rfl) rfl (Src.row 2 (mv rfl) rfl) h28 (fits_max (by decide) h28) fun sv29 => ?_)
                  refine cq rfl rfl rfl (opAssign (mv rfl)) ?_
                  refine rn ?_
                  exact AtX.to (hJ25 ((v18 ++ [(Swap.mk v2 v17 (v12 ((v17 : Int).toNat)))]), sv29) h) [0, 1] (sl rfl) (ol rfl) rfl
                · rw [if_neg (bne_true c26)] at h
                  refine CodeT.skip ?_
                  exact AtX.to (hJ25 (v18, sv19) h) [0, 1] (sl rfl) (ol rfl) rfl
            · rw [if_neg (bne_true c21)] at h
              refine CodeT.exit ?_
              refine AtX.then_exit ?_
              refine AtX.then_exit ?_
              refine AtX.in_hit ?_
              exact AtX.to (hJ16 (v18, sv19) h) [1] (sl rfl) (ol rfl) rfl
        · refine CodeT.block ?_
          refine CodeT.to (CodeT.loop (fun n (z : Bool × (Nat → Int)) => fleet_Given_L32 φ v1 (fleet_Given_j13 φ v1 v2) n z.1 z.2) r (fun z => ⟨Slots.of [(1, (iv .i64 v2)), (2, (eqv (.pointer (some ⟨b3, 0, none⟩)))), (7, (eqv (.pointer (some ⟨b8, 0, none⟩)))), (9, (bv z.1))], [(box b3 27 (eFleet v1)), (box b8 83 ([] ++ arr 32 eI64 z.2 ++ []))]⟩) (fun z => rfl) (fun n32 z ih32 h => ?_) φ (true, (upd v9 ((v2 : Int).toNat) 0)) h) [0, 1] (sl rfl) (ol rfl) rfl
          obtain ⟨v30, v31⟩ := z
          replace h : fleet_Given_L32 φ v1 (fleet_Given_j13 φ v1 v2) (n32 + 1) v30 v31 = some r := h
          rw [fleet_Given_L32] at h
          refine cs (cs (cr [0] rfl ?_))
          refine cq rfl rfl rfl (opMove (mv rfl)) ?_
          refine rn (al [1, 2, 7, 35] [0, 1] rfl rfl rfl (sq ?_))
          refine CodeT.cond v30 (evBool (mv rfl)) (fun c33 => ?_) (fun c33 => ?_)
          · rw [if_pos c33] at h
            refine CodeT.skip ?_
            refine al [1, 2, 7] [0, 1] rfl rfl rfl ?_
            refine sq ?_
            refine CodeT.block ?_
            refine cs (cr [0] rfl ?_)
            refine cq rfl rfl rfl (opAssign (Ev.const _)) ?_
            refine rn (al [1, 2, 7, 9] [0, 1] rfl rfl rfl (sq (cs (cr [0, 1, 2, 3] rfl ?_))))
            refine cq rfl rfl rfl (opFieldP (fo27_2 H) (mv rfl)) ?_
            refine cq rfl rfl rfl (opLoad1 (tl24 H) ((Pt.box 0 (mv rfl) rfl rfl).take 1 (cs' := [(ro eSwap 3 v1.fSwaps)]) rfl)) ?_
            refine cq rfl rfl rfl (opLenR (il24 H) (mv rfl)) ?_
            refine cq rfl rfl rfl (opMove (Ev.const _)) ?_
            refine rn (al [1, 2, 7, 9, 37, 38, 39] [0, 1] rfl rfl rfl (sq ?_))
            refine CodeT.block ?_
            refine CodeT.to (CodeT.loop (fun n (z : Bool × Int × (Nat → Int)) => fleet_Given_L37 φ v1 (fleet_Given_L32 φ v1 (fleet_Given_j13 φ v1 v2) n32) n z.1 z.2.1 z.2.2) r (fun z => ⟨Slots.of [(1, (iv .i64 v2)), (2, (eqv (.pointer (some ⟨b3, 0, none⟩)))), (7, (eqv (.pointer (some ⟨b8, 0, none⟩)))), (9, (bv z.1)), (37, (ro eSwap 3 v1.fSwaps)), (38, (iv .i64 (v1.fSwaps.length : Int))), (39, (iv .i64 z.2.1))], [(box b3 27 (eFleet v1)), (box b8 83 ([] ++ arr 32 eI64 z.2.2 ++ []))]⟩) (fun z => rfl) (fun n37 z ih37 h => ?_) φ (false, 0, v31) h) [0, 1] (sl rfl) (ol rfl) rfl
            obtain ⟨v34, v35, v36⟩ := z
            replace h : fleet_Given_L37 φ v1 (fleet_Given_L32 φ v1 (fleet_Given_j13 φ v1 v2) n32) (n37 + 1) v34 v35 v36 = some r := h
            rw [fleet_Given_L37] at h
            refine cs (cr [0] rfl ?_)
            refine cq rfl rfl rfl (opLss (mv rfl) (mv rfl)) ?_
            refine rn (al [1, 2, 7, 9, 37, 38, 39, 40] [0, 1] rfl rfl rfl (sq (cs ?_)))
            refine CodeT.cond (decide (v35 < (v1.fSwaps.length : Int))) (evBool (mv rfl)) (fun c38 => ?_) (fun c38 => ?_)
            · rw [if_pos c38] at h
              refine CodeT.skip ?_
              refine al [1, 2, 7, 9, 37, 38, 39] [0, 1] rfl rfl rfl ?_
              refine sq (cs ?_)
              refine CodeT.block ?_
              refine cs (cr [0, 1, 2, 3] rfl ?_)
              refine ckE h fun h39 h => ?_
              refine cq rfl rfl rfl (opIndexR (e := eSwap) (y := (gt v1.fSwaps v35)) (ix24 H) (mv rfl) (mv rfl) (h39).1 (gt_some h39)) ?_
              refine RunOps.cons_q (agg (eSwap (gt v1.fSwaps v35))) rfl rfl rfl (opLoadN (tl43 H) (Pt.rop (mv rfl))) ?_
              refine RunOps.cons rfl rfl rfl (opAlloc [.int .i64 0, .int .i64 0, .int .i64 0] (ze43 H) rfl fun b40 => ?_)
              refine RunOps.cons rfl rfl rfl (opStore 2 (cells := [(iv .i64 0), (iv .i64 0), (iv .i64 0)]) (cs := (eSwap (gt v1.fSwaps v35))) (out := (eSwap (gt v1.fSwaps v35))) (tl43 H) (mv rfl) (Ce.agg (mv rfl)) rfl rfl (Nat.le_of_ble_eq_true rfl) rfl ?_)
              refine rn (al [1, 2, 7, 9, 11, 37, 38, 39] [0, 1, 2] rfl rfl rfl (sq (cs ?_)))
              refine ckE h fun h41 h => ?_
              refine CodeT.draw (QR := [(0, (eqv (.pointer (some ⟨b40, 0, none⟩)))), (1, (iv .i64 ((gt v1.fSwaps v35).fWanted))), (2, (eqv (.pointer (some ⟨b8, 0 + ((gt v1.fSwaps v35).fWanted : Int).toNat * 1, none⟩)))), (3, (iv .i64 (v36 (((gt v1.fSwaps v35).fWanted : Int).toNat)))), (4, (eqv (.pointer (some ⟨b40, 2, none⟩)))), (5, (iv .i64 ((gt v1.fSwaps v35).fCost))), (6, (iv .i64 (W ((v36 (((gt v1.fSwaps v35).fWanted : Int).toNat)) + ((gt v1.fSwaps v35).fCost))))), (7, (iv .i64 (W ((v36 (((gt v1.fSwaps v35).fWanted : Int).toNat)) + ((gt v1.fSwaps v35).fCost)))))]) (tab := [(some 43, []), (some 44, [0]), (some 45, [1]), (some 46, [2]), (some 47, []), (some 48, [4]), (some 49, [3, 5]), (some 12, [6, 0, 1, 2, 3, 4, 5, 6])]) (mixed H) ?_
              refine Reg.intro [] [] (by kernel_rfl) rfl ⟨rfl, rfl, rfl, rfl, rfl, rfl, rfl, rfl, trivial⟩ ⟨(fun _ => ⟨_, rfl, (opFieldP (fo43_0 H) (mv rfl))⟩), (fun _ => ⟨_, rfl, (opLoad1 (tl3 H) ((Pt.box 2 (mv rfl) rfl rfl).take 1 (cs' := [(iv .i64 ((gt v1.fSwaps v35).fWanted))]) rfl))⟩), (fun _ => ⟨_, rfl, (opIndexA (ix83 H) (mv rfl) (mv rfl) (h41).1 (h41).2)⟩), (fun _ => ⟨_, rfl, (opLoad1 (tl3 H) (Pt.ofArr (e := eI64) 1 (off := 0 + ((gt v1.fSwaps v35).fWanted : Int).toNat * 1) (k := ((gt v1.fSwaps v35).fWanted : Int).toNat) (mv rfl) rfl lI64 (by have hb0 := h41; simp only [List.length_nil, List.length_cons] <;> omega) (by have hb0 := h41; omega)))⟩), (fun _ => ⟨_, rfl, (opFieldP (fo43_2 H) (mv rfl))⟩), (fun _ => ⟨_, rfl, (opLoad1 (tl3 H) ((Pt.box 2 (mv rfl) rfl rfl).take 1 (cs' := [(iv .i64 ((gt v1.fSwaps v35).fCost))]) rfl))⟩), (fun _ => ⟨_, rfl, (opAdd (mv rfl) (mv rfl))⟩), (fun _ => ⟨_, rfl, (opAssign (mv rfl))⟩), trivial⟩ trivial (fun _ => ?_)
              refine al [1, 2, 7, 9, 11, 12, 37, 38, 39] [0, 1, 2] rfl rfl rfl ?_
              refine sq (cs (cr [0, 1, 2, 3, 4, 5, 6, 7, 8, 9, 10, 11, 12, 13, 14, 15, 16, 17, 18, 19] rfl ?_))
              refine cq rfl rfl rfl (opFieldP (fo43_0 H) (mv rfl)) ?_
              refine cq rfl rfl rfl (opLoad1 (tl3 H) ((Pt.box 2 (mv rfl) rfl rfl).take 1 (cs' := [(iv .i64 ((gt v1.fSwaps v35).fWanted))]) rfl)) ?_
              refine ckE h fun h42 h => ?_
              refine cq rfl rfl rfl (opIndexA (ix83 H) (mv rfl) (mv rfl) (h42).1 (h42).2) ?_
              refine cq rfl rfl rfl (opLoad1 (tl3 H) (Pt.ofArr (e := eI64) 1 (off := 0 + ((gt v1.fSwaps v35).fWanted : Int).toNat * 1) (k := ((gt v1.fSwaps v35).fWanted : Int).toNat) (mv rfl) rfl lI64 (by have hb0 := h42; simp only [List.length_nil, List.length_cons] <;> omega) (by have hb0 := h42; omega))) ?_
              refine cq rfl rfl rfl (opGeq (mv rfl) (Ev.const _)) ?_
              refine cq rfl rfl rfl (opMove (mv rfl)) ?_
              refine cg rfl rfl rfl rfl rfl (fun g43 => opFieldP (fo43_1 H) (mv rfl)) ?_
              refine cg rfl rfl rfl rfl rfl (fun g44 => opLoad1 (tl3 H) ((Pt.box 2 (Ev.cnd (mv rfl) g44) rfl rfl).take 1 (cs' := [(iv .i64 ((gt v1.fSwaps v35).fGiven))]) rfl)) ?_
              refine ckE h fun h46 h => ?_
              refine cg rfl rfl rfl rfl rfl (fun g45 => opIndexA (ix83 H) (mv rfl) (Ev.cnd (mv rfl) g45) ((h46 g45)).1 ((h46 g45)).2) ?_
              refine cg rfl rfl rfl rfl rfl (fun g47 => opLoad1 (tl3 H) (Pt.ofArr (e := eI64) 1 (off := 0 + ((gt v1.fSwaps v35).fGiven : Int).toNat * 1) (k := ((gt v1.fSwaps v35).fGiven : Int).toNat) (Ev.cnd (mv rfl) g47) rfl lI64 (by have hb0 := (h46 g47); simp only [List.length_nil, List.length_cons] <;> omega) (by have hb0 := (h46 g47); omega))) ?_
              refine cg rfl rfl rfl rfl rfl (fun g48 => opLss (Ev.cnd (mv rfl) g48) (Ev.const _)) ?_
              refine cg rfl rfl rfl rfl rfl (fun g49 => opMove (Ev.cnd (mv rfl) g49)) ?_
              refine RunOps.cons_gc (iv .i64 (W ((v36 (((gt v1.fSwaps v35).fWanted : Int).toNat)) + ((gt v1.fSwaps v35).fCost)))) (decide (0 ≤ (v36 (((gt v1.fSwaps v35).fWanted : Int).toNat))) = true) (decide ((v36 (((gt v1.fSwaps v35).fGiven : Int).toNat)) < 0)) rfl rfl rfl rfl rfl (fun g50 => (opMove (mv rfl))) ?_
              refine RunOps.cons_gc (eqv (.pointer (some ⟨b40, 1, none⟩))) (decide (0 ≤ (v36 (((gt v1.fSwaps v35).fWanted : Int).toNat))) = true) (decide ((v36 (((gt v1.fSwaps v35).fGiven : Int).toNat)) < 0)) rfl rfl rfl rfl rfl (fun g51 => (opFieldP (fo43_1 H) (mv rfl))) ?_
              refine RunOps.cons_gc (iv .i64 ((gt v1.fSwaps v35).fGiven)) (decide (0 ≤ (v36 (((gt v1.fSwaps v35).fWanted : Int).toNat))) = true) (decide ((v36 (((gt v1.fSwaps v35).fGiven : Int).toNat)) < 0)) rfl rfl rfl rfl rfl (fun g52 => (opLoad1 (tl3 H) ((Pt.box 2 (Ev.cnd (mv rfl) ⟨g52.1, g52.2⟩) rfl rfl).take 1 (cs' := [(iv .i64 ((gt v1.fSwaps v35).fGiven))]) rfl))) ?_
              refine ckE h fun h54 h => ?_
              refine RunOps.cons_gc (eqv (.pointer (some ⟨b8, 0 + ((gt v1.fSwaps v35).fGiven : Int).toNat * 1, none⟩))) (decide (0 ≤ (v36 (((gt v1.fSwaps v35).fWanted : Int).toNat))) = true) (decide ((v36 (((gt v1.fSwaps v35).fGiven : Int).toNat)) < 0)) rfl rfl rfl rfl rfl (fun g53 => (opIndexA (ix83 H) (mv rfl) (Ev.cnd (mv rfl) ⟨g53.1, g53.2⟩) ((h54 g53)).1 ((h54 g53)).2)) ?_
              refine RunOps.cons_gc (iv .i64 (v36 (((gt v1.fSwaps v35).fGiven : Int).toNat))) (decide (0 ≤ (v36 (((gt v1.fSwaps v35).fWanted : Int).toNat))) = true) (decide ((v36 (((gt v1.fSwaps v35).fGiven : Int).toNat)) < 0)) rfl rfl rfl rfl rfl (fun g55 => (opLoad1 (tl3 H) (Pt.ofArr (e := eI64) 1 (off := 0 + ((gt v1.fSwaps v35).fGiven : Int).toNat * 1) (k := ((gt v1.fSwaps v35).fGiven : Int).toNat) (Ev.cnd (mv rfl) ⟨g55.1, g55.2⟩) rfl lI64 (by have hb0 := (h54 g55); simp only [List.length_nil, List.length_cons] <;> omega) (by have hb0 := (h54 g55); omega)))) ?_
              refine RunOps.cons_gc (bv (decide ((W ((v36 (((gt v1.fSwaps v35).fWanted : Int).toNat)) + ((gt v1.fSwaps v35).fCost))) < (v36 (((gt v1.fSwaps v35).fGiven : Int).toNat))))) (decide (0 ≤ (v36 (((gt v1.fSwaps v35).fWanted : Int).toNat))) = true) (decide ((v36 (((gt v1.fSwaps v35).fGiven : Int).toNat)) < 0)) rfl rfl rfl rfl rfl (fun g56 => (opLss (Ev.cnd (mv rfl) ⟨g56.1, g56.2⟩) (Ev.cnd (mv rfl) ⟨g56.1, g56.2⟩))) ?_
              refine cg rfl rfl rfl rfl rfl (fun g57 => opOr (Ev.cnd (mv rfl) g57) (Ev.const _) (fun g58 => (Ev.cnd (mv rfl) ⟨g57, g58⟩))) ?_
              refine cq rfl rfl rfl (opAnd (mv rfl) (fun g59 => (Ev.cnd (mv rfl) g59)) (Ev.const _)) ?_
              refine rn (al [1, 2, 7, 9, 11, 12, 37, 38, 39, 69] [0, 1, 2] rfl rfl rfl (sq ?_))
              refine CodeT.join (fun z : Bool × (Nat → Int) => (fleet_Given_j62 φ v35 (fleet_Given_L37 φ v1 (fleet_Given_L32 φ v1 (fleet_Given_j13 φ v1 v2) n32) n37)) z.1 z.2) r (fun z => ⟨Slots.of [(1, (iv .i64 v2)), (2, (eqv (.pointer (some ⟨b3, 0, none⟩)))), (7, (eqv (.pointer (some ⟨b8, 0, none⟩)))), (9, (bv z.1)), (37, (ro eSwap 3 v1.fSwaps)), (38, (iv .i64 (v1.fSwaps.length : Int))), (39, (iv .i64 v35))], [(box b3 27 (eFleet v1)), (box b8 83 ([] ++ arr 32 eI64 z.2 ++ []))]⟩) (fun z h => ?_) (fun hJ62 => ?_)
              · obtain ⟨v60, v61⟩ := z
                replace h : (fleet_Given_j62 φ v35 (fleet_Given_L37 φ v1 (fleet_Given_L32 φ v1 (fleet_Given_j13 φ v1 v2) n32) n37)) v60 v61 = some r := h
                unfold fleet_Given_j62 at h
                refine AtX.in_normal ?_
                refine al [1, 2, 7, 9, 37, 38, 39] [0, 1] rfl rfl rfl ?_
                refine sq (cr [0, 1] rfl ?_)
                refine cq rfl rfl rfl (opAdd (mv rfl) (Ev.const _)) ?_
                refine cq rfl rfl rfl (opMove (mv rfl)) ?_
                refine rn ?_
                exact AtX.to (ih37 (v60, (W (v35 + 1)), v61) h) [0, 1] (sl rfl) (ol rfl) rfl
              · refine CodeT.cond (decide (0 ≤ (v36 (((gt v1.fSwaps v35).fWanted : Int).toNat))) && (decide ((v36 (((gt v1.fSwaps v35).fGiven : Int).toNat)) < 0) || decide ((W ((v36 (((gt v1.fSwaps v35).fWanted : Int).toNat)) + ((gt v1.fSwaps v35).fCost))) < (v36 (((gt v1.fSwaps v35).fGiven : Int).toNat))))) (evBool (mv rfl)) (fun c63 => ?_) (fun c63 => ?_)
                · rw [if_pos c63] at h
                  refine cr [0, 1, 2, 3, 4, 5] rfl ?_
                  refine cq rfl rfl rfl (opFieldP (fo43_1 H) (mv rfl)) ?_
                  refine cq rfl rfl rfl (opLoad1 (tl3 H) ((Pt.box 2 (mv rfl) rfl rfl).take 1 (cs' := [(iv .i64 ((gt v1.fSwaps v35).fGiven))]) rfl)) ?_
                  refine cq rfl rfl rfl (opMove (mv rfl)) ?_
                  refine ckE h fun h64 h => ?_
                  refine cq rfl rfl rfl (opIndexA (ix83 H) (mv rfl) (mv rfl) (h64).1 (h64).2) ?_
                  refine RunOps.cons rfl rfl rfl (opStore 1 (off := 0 + ((gt v1.fSwaps v35).fGiven : Int).toNat * 1) (cells := ([] ++ arr 32 eI64 v36 ++ [])) (cs := [(iv .i64 (W ((v36 (((gt v1.fSwaps v35).fWanted : Int).toNat)) + ((gt v1.fSwaps v35).fCost))))]) (out := ([] ++ arr 32 eI64 (upd v36 (((gt v1.fSwaps v35).fGiven : Int).toNat) (W ((v36 (((gt v1.fSwaps v35).fWanted : Int).toNat)) + ((gt v1.fSwaps v35).fCost)))) ++ [])) (tl3 H) (mv rfl) (Ce.one (mv rfl) (One.eqv rfl)) rfl rfl (arr_bound (k := ((gt v1.fSwaps v35).fGiven : Int).toNat) lI64 (by have hb0 := h64; simp only [List.length_nil, List.length_cons] <;> omega) (by have hb0 := h64; omega) rfl) (arr_splice (k := ((gt v1.fSwaps v35).fGiven : Int).toNat) lI64 (by have hb0 := h64; simp only [List.length_nil, List.length_cons] <;> omega) (by have hb0 := h64; omega) rfl rfl) ?_)
                  refine cq rfl rfl rfl (opAssign (Ev.const _)) ?_
                  refine rn ?_
                  exact AtX.to (hJ62 (true, (upd v36 (((gt v1.fSwaps v35).fGiven : Int).toNat) (W ((v36 (((gt v1.fSwaps v35).fWanted : Int).toNat)) + ((gt v1.fSwaps v35).fCost))))) h) [0, 1] (sl rfl) (ol rfl) rfl
                · rw [if_neg (bne_true c63)] at h
                  refine CodeT.skip ?_
                  exact AtX.to (hJ62 (v34, v36) h) [0, 1] (sl rfl) (ol rfl) rfl
            · rw [if_neg (bne_true c38)] at h
              refine CodeT.exit ?_
              refine AtX.then_exit ?_
              refine AtX.then_exit ?_
              refine AtX.in_hit ?_
              refine AtX.in_normal ?_
              exact AtX.to (ih32 (v34, v36) h) [0, 1] (sl rfl) (ol rfl) rfl
          · rw [if_neg (bne_true c33)] at h
            refine CodeT.exit ?_
            refine AtX.then_exit ?_
            refine AtX.then_exit ?_
            refine AtX.in_hit ?_
            exact AtX.to (hJ13 v31 h) [0, 1] (sl rfl) (ol rfl) rfl
      · refine CodeT.block ?_
        refine CodeT.to (CodeT.loop (fun n (z : Int × (Nat → Int)) => fleet_Given_L67 φ (fleet_Given_j10 φ v1 v2) n z.1 z.2) r (fun z => ⟨Slots.of [(1, (iv .i64 v2)), (2, (eqv (.pointer (some ⟨b3, 0, none⟩)))), (7, (eqv (.pointer (some ⟨b8, 0, none⟩)))), (27, (iv .i64 z.1))], [(box b3 27 (eFleet v1)), (box b8 83 ([] ++ arr 32 eI64 z.2 ++ []))]⟩) (fun z => rfl) (fun n67 z ih67 h => ?_) φ (0, (fun _ => 0)) h) [0, 1] (sl rfl) (ol rfl) rfl
        obtain ⟨v65, v66⟩ := z
        replace h : fleet_Given_L67 φ (fleet_Given_j10 φ v1 v2) (n67 + 1) v65 v66 = some r := h
        rw [fleet_Given_L67] at h
        refine cs (cr [0] rfl ?_)
        refine cq rfl rfl rfl (opLss (mv rfl) (Ev.const _)) ?_
        refine rn (al [1, 2, 7, 27, 28] [0, 1] rfl rfl rfl (sq (cs ?_)))
        refine CodeT.cond (decide (v65 < 32)) (evBool (mv rfl)) (fun c68 => ?_) (fun c68 => ?_)
        · rw [if_pos c68] at h
          refine CodeT.skip ?_
          refine al [1, 2, 7, 27] [0, 1] rfl rfl rfl ?_
          refine sq (cs ?_)
          refine CodeT.block ?_
          refine cs (cr [0, 1] rfl ?_)
          refine cq rfl rfl rfl (opMove (mv rfl)) ?_
          refine cq rfl rfl rfl (opAssign (mv rfl)) ?_
          refine rn (al [1, 2, 7, 8, 27] [0, 1] rfl rfl rfl (sq (cr [0, 1, 2] rfl ?_)))
          refine cq rfl rfl rfl (opMove (mv rfl)) ?_
          refine ckE h fun h69 h => ?_
          refine cq rfl rfl rfl (opIndexA (ix83 H) (mv rfl) (mv rfl) (h69).1 (h69).2) ?_
          refine RunOps.cons rfl rfl rfl (opStore 1 (off := 0 + (v65 : Int).toNat * 1) (cells := ([] ++ arr 32 eI64 v66 ++ [])) (cs := [(iv .i64 (-1))]) (out := ([] ++ arr 32 eI64 (upd v66 ((v65 : Int).toNat) (-1)) ++ [])) (tl3 H) (mv rfl) (Ce.one (Ev.const _) (One.eqv rfl)) rfl rfl (arr_bound (k := (v65 : Int).toNat) lI64 (by have hb0 := h69; simp only [List.length_nil, List.length_cons] <;> omega) (by have hb0 := h69; omega) rfl) (arr_splice (k := (v65 : Int).toNat) lI64 (by have hb0 := h69; simp only [List.length_nil, List.length_cons] <;> omega) (by have hb0 := h69; omega) rfl rfl) ?_)
          refine rn ?_
          refine AtX.in_normal ?_
          refine al [1, 2, 7, 27] [0, 1] rfl rfl rfl ?_
          refine sq (cr [0, 1] rfl ?_)
          refine cq rfl rfl rfl (opAdd (mv rfl) (Ev.const _)) ?_
          refine cq rfl rfl rfl (opMove (mv rfl)) ?_
          refine rn ?_
          exact AtX.to (ih67 ((W (v65 + 1)), (upd v66 ((v65 : Int).toNat) (-1))) h) [0, 1] (sl rfl) (ol rfl) rfl
        · rw [if_neg (bne_true c68)] at h
          refine CodeT.exit ?_
          refine AtX.then_exit ?_
          refine AtX.then_exit ?_
          refine AtX.in_hit ?_
          exact AtX.to (hJ10 v66 h) [0, 1] (sl rfl) (ol rfl) rfl
theorem ref09_Given_ok {P : Program} (H : P = Try.prog) (φ : Nat) (v1 : Fleet) (v2 : Int) (r : ((List Swap) × Int)) (h : ref09_Given φ v1 v2 = some r) : PureT P 13 [(agg (eFleet v1)), (iv .i64 v2)] (K_ref09_Given r) := by
  unfold ref09_Given at h
  refine PureT.of_code' 118 (fn13 H) rfl rfl (Nat.le_of_ble_eq_true rfl) fun w0 base r0 wI => ?_
  refine cl [0, 1] [] rfl rfl rfl ?_
  refine cs ?_
  refine CodeT.addNil 43 eSwap 3 ?_
  refine cr [0, 1, 2] rfl ?_
  refine RunOps.cons rfl rfl rfl (opBox (cs := (eFleet v1)) (Ce.agg (mv rfl)) fun b3 => ?_)
  refine cq rfl rfl rfl (opAssign (Ev.const _)) ?_
  refine cq rfl rfl rfl (opAssign (Ev.const _)) ?_
  refine rn (al [1, 2] [1] rfl rfl rfl (sq (cs (cr [0, 1, 2] rfl ?_))))
  refine RunOps.cons_q (agg (eFleet v1)) rfl rfl rfl (opLoadN (tl27 H) ((Pt.box 0 (mv rfl) rfl rfl).take 4 (cs' := (eFleet v1)) rfl)) ?_
  refine bindE h fun y4 ey4 h => ?_
  refine cq rfl rfl rfl (opCallQ (fnok19 H) (args := [(agg (eFleet v1))]) ⟨EvF.of (mv rfl) FEnt.refl, trivial⟩ (ref09_Check_ok H φ v1 _ ey4) flat_eqv) ?_
  refine cq rfl rfl rfl (opAssign (mv rfl)) ?_
  refine rn (al [1, 2, 6] [0] rfl rfl rfl (sq (cs (cs (cr [0, 1] rfl ?_)))))
  refine cq rfl rfl rfl (opMove (mv rfl)) ?_
  refine cq rfl rfl rfl (opNeq (mv rfl) (Ev.const _)) ?_
  refine rn (al [1, 2, 6, 18] [0] rfl rfl rfl (sq ?_))
  refine CodeT.cond (y4 != 0) (evBool (mv rfl)) (fun c5 => ?_) (fun c5 => ?_)
  · rw [if_pos c5] at h
    refine cs ?_
    refine CodeT.addNil 43 eSwap 3 ?_
    refine cr [0, 1, 2] rfl ?_
    refine cq rfl rfl rfl (opMove (mv rfl)) ?_
    refine cq rfl rfl rfl (opAssign (Ev.const _)) ?_
    refine cq rfl rfl rfl (opAssign (mv rfl)) ?_
    refine rn (al [4, 5] [1] rfl rfl rfl (sq ?_))
    refine CodeT.ret ?_
    refine AtX.then_ret ?_
    refine AtX.ret' (tupv [(eqv (Value.slice none 0 0)), (iv .i64 y4)]) (ResOK.two Try.results13 rfl rfl) [0] [(row 43 eSwap 3 ([] : List Swap) (Value.slice none 0 0))] (ol rfl) rfl ?_
    obtain rfl := Option.some.inj h
    exact ⟨(Value.slice none 0 0), rfl, rfl⟩
  · rw [if_neg (bne_true c5)] at h
    refine CodeT.skip ?_
    refine al [1, 2] [0] rfl rfl rfl ?_
    refine sq (cs (cs (cr [0, 1, 2, 3, 4, 5, 6] rfl ?_)))
    refine cq rfl rfl rfl (opMove (mv rfl)) ?_
    refine cq rfl rfl rfl (opFieldP (fo27_0 H) (mv rfl)) ?_
    refine cq rfl rfl rfl (opLoad1 (tl22 H) ((Pt.box 0 (mv rfl) rfl rfl).take 1 (cs' := [(ro eWagonType 8 v1.fTypes)]) rfl)) ?_
    refine cq rfl rfl rfl (opLenR (il22 H) (mv rfl)) ?_
    refine cq rfl rfl rfl (opSub (mv rfl) (Ev.const _)) ?_
    refine bindE h fun y6 ey6 h => ?_
    refine cq rfl rfl rfl (opCallQ (fnok30 H) (args := [(iv .i64 v2), (iv .i64 0), (iv .i64 (W ((v1.fTypes.length : Int) - 1)))]) ⟨EvF.of (mv rfl) FEnt.refl, EvF.of (Ev.const _) FEnt.refl, EvF.of (mv rfl) FEnt.refl, trivial⟩ (ref09_within_ok H φ v2 0 (W ((v1.fTypes.length : Int) - 1)) _ ey6) flat_eqv) ?_
    refine cq rfl rfl rfl (opNot (mv rfl)) ?_
    refine rn (al [1, 2, 26] [0] rfl rfl rfl (sq ?_))
    refine CodeT.cond (!y6) (evBool (mv rfl)) (fun c7 => ?_) (fun c7 => ?_)
    · rw [if_pos c7] at h
      refine cs ?_
      refine CodeT.addNil 43 eSwap 3 ?_
      refine cr [0, 1] rfl ?_
      refine cq rfl rfl rfl (opAssign (Ev.const _)) ?_
      refine cq rfl rfl rfl (opAssign (Ev.const _)) ?_
      refine rn (al [4, 5] [1] rfl rfl rfl (sq ?_))
      refine CodeT.ret ?_
      refine AtX.then_ret ?_
      refine AtX.ret' (tupv [(eqv (Value.slice none 0 0)), (iv .i64 90)]) (ResOK.two Try.results13 rfl rfl) [0] [(row 43 eSwap 3 ([] : List Swap) (Value.slice none 0 0))] (ol rfl) rfl ?_
      obtain rfl := Option.some.inj h
      exact ⟨(Value.slice none 0 0), rfl, rfl⟩
    · rw [if_neg (bne_true c7)] at h
      refine CodeT.skip ?_
      refine al [1, 2] [0] rfl rfl rfl ?_
      refine sq (cs (cr [0, 1, 2, 3, 4] rfl ?_))
      refine cq rfl rfl rfl (opFieldP (fo27_0 H) (mv rfl)) ?_
      refine cq rfl rfl rfl (opLoad1 (tl22 H) ((Pt.box 0 (mv rfl) rfl rfl).take 1 (cs' := [(ro eWagonType 8 v1.fTypes)]) rfl)) ?_
      refine cq rfl rfl rfl (opLenR (il22 H) (mv rfl)) ?_
      refine ckE h fun h8 h => ?_
      refine RunOps.cons rfl rfl rfl (opMake (e := eI64) 0 [.int .i64 0] (sl41 H) lI64 (ze3 H) rfl rfl (mv rfl) (mv rfl) h8.1 h8.2.1 h8.2.2 fun sv9 => ?_)
      refine cq rfl rfl rfl (opAssign (mv rfl)) ?_
      refine rn (al [1, 2, 7] [0, 1] rfl rfl rfl (sq (cs (cs (cr [0] rfl ?_)))))
      refine cq rfl rfl rfl (opAssign (Ev.const _)) ?_
      refine rn (al [1, 2, 7, 8] [0, 1] rfl rfl rfl (sq ?_))
      refine CodeT.join (fun z : (List Int) => (ref09_Given_j11 φ v1 v2) z) r (fun z => ⟨Slots.of [(1, (iv .i64 v2)), (2, (eqv (.pointer (some ⟨b3, 0, none⟩)))), (7, (eqv sv9))], [(box b3 27 (eFleet v1)), (row 3 eI64 1 z sv9)]⟩) (fun v10 h => ?_) (fun hJ11 => ?_)
      · replace h : (ref09_Given_j11 φ v1 v2) v10 = some r := h
        unfold ref09_Given_j11 at h
        refine al [1, 2, 7] [0, 1] rfl rfl rfl ?_
        refine sq (cs (cr [0, 1, 2, 3] rfl ?_))
        refine cq rfl rfl rfl (opMove (mv rfl)) ?_
        refine cq rfl rfl rfl (opMove (mv rfl)) ?_
        refine ckE h fun h12 h => ?_
        refine cq rfl rfl rfl (opIndexO 1 (ix41 H) (mv rfl) rfl (mv rfl) (h12).1 (h12).2) ?_
        refine RunOps.cons rfl rfl rfl (opStoreO 1 (k := (v2 : Int).toNat) (fo := 0) (z' := 0) (cs := [(iv .i64 0)]) lI64 (tl3 H) (mv rfl) (Ce.one (Ev.const _) (One.eqv rfl)) rfl rfl (by omega) (gt_some h12) (Nat.le_of_ble_eq_true rfl) rfl ?_)
        refine rn (al [1, 2, 7] [0, 1] rfl rfl rfl (sq (cs (cs (cr [0] rfl ?_)))))
        refine cq rfl rfl rfl (opAssign (Ev.const _)) ?_
        refine rn (al [1, 2, 7, 9] [0, 1] rfl rfl rfl (sq ?_))
        refine CodeT.join (fun z : (List Int) => (ref09_Given_j14 φ v2) z) r (fun z => ⟨Slots.of [(1, (iv .i64 v2)), (7, (eqv sv9))], [(row 3 eI64 1 z sv9)]⟩) (fun v13 h => ?_) (fun hJ14 => ?_)
        · replace h : (ref09_Given_j14 φ v2) v13 = some r := h
          unfold ref09_Given_j14 at h
          refine al [1, 7] [0] rfl rfl rfl ?_
          refine sq (cs ?_)
          refine CodeT.addNil 43 eSwap 3 ?_
          refine cr [0] rfl ?_
          refine cq rfl rfl rfl (opAssign (Ev.const _)) ?_
          refine rn (al [1, 7, 13] [0, 1] rfl rfl rfl (sq (cs (cs (cr [0] rfl ?_)))))
          refine cq rfl rfl rfl (opAssign (Ev.const _)) ?_
          refine rn (al [1, 7, 13, 14] [0, 1] rfl rfl rfl (sq ?_))
          refine CodeT.join (fun z : (List Swap) × Value => (ref09_Given_j17 φ) z.1) r (fun z => ⟨Slots.of [(13, (eqv z.2))], [(row 43 eSwap 3 z.1 z.2)]⟩) (fun z h => ?_) (fun hJ17 => ?_)
          · obtain ⟨v15, sv16⟩ := z
            replace h : (ref09_Given_j17 φ) v15 = some r := h
            unfold ref09_Given_j17 at h
            refine al [13] [0] rfl rfl rfl ?_
            refine sq (cs (cr [0, 1, 2] rfl ?_))
            refine cq rfl rfl rfl (opMove (mv rfl)) ?_
            refine cq rfl rfl rfl (opAssign (mv rfl)) ?_
            refine cq rfl rfl rfl (opAssign (Ev.const _)) ?_
            refine rn (al [4, 5] [0] rfl rfl rfl (sq ?_))
            refine CodeT.ret ?_
            refine AtX.ret' (tupv [(eqv sv16), (iv .i64 0)]) (ResOK.two Try.results13 rfl rfl) [0] [(row 43 eSwap 3 v15 sv16)] (ol rfl) rfl ?_
            obtain rfl := Option.some.inj h
            exact ⟨sv16, rfl, rfl⟩
          · refine CodeT.block ?_
            refine CodeT.to (CodeT.loop (fun n (z : Int × (List Swap) × Value) => ref09_Given_L21 φ v2 v13 (ref09_Given_j17 φ) n z.1 z.2.1) r (fun z => ⟨Slots.of [(1, (iv .i64 v2)), (7, (eqv sv9)), (13, (eqv z.2.2)), (14, (iv .i64 z.1))], [(row 3 eI64 1 v13 sv9), (row 43 eSwap 3 z.2.1 z.2.2)]⟩) (fun z => rfl) (fun n21 z ih21 h => ?_) φ (0, ([] : List Swap), (Value.slice none 0 0)) h) [0, 1] (sl rfl) (ol rfl) rfl
            obtain ⟨v18, v19, sv20⟩ := z
            replace h : ref09_Given_L21 φ v2 v13 (ref09_Given_j17 φ) (n21 + 1) v18 v19 = some r := h
            rw [ref09_Given_L21] at h
            refine cs (cs (cr [0, 1, 2, 3] rfl ?_))
            refine cq rfl rfl rfl (opMove (mv rfl)) ?_
            refine cq rfl rfl rfl (opMove (mv rfl)) ?_
            refine cq rfl rfl rfl (opLenO 0 (il41 H) (mv rfl) rfl) ?_
            refine cq rfl rfl rfl (opLss (mv rfl) (mv rfl)) ?_
            refine rn (al [1, 7, 13, 14, 99] [0, 1] rfl rfl rfl (sq ?_))
            refine CodeT.cond (decide (v18 < (v13.length : Int))) (evBool (mv rfl)) (fun c22 => ?_) (fun c22 => ?_)
            · rw [if_pos c22] at h
              refine CodeT.skip ?_
              refine al [1, 7, 13, 14] [0, 1] rfl rfl rfl ?_
              refine sq (cs ?_)
              refine CodeT.block ?_
              refine cs (cr [0, 1, 2, 3, 4] rfl ?_)
              refine cq rfl rfl rfl (opMove (mv rfl)) ?_
              refine cq rfl rfl rfl (opMove (mv rfl)) ?_
              refine ckE h fun h23 h => ?_
              refine cq rfl rfl rfl (opIndexO 0 (ix41 H) (mv rfl) rfl (mv rfl) (h23).1 (h23).2) ?_
              refine cq rfl rfl rfl (opLoad1 (tl3 H) ((Pt.row _ 0 (k := (v18 : Int).toNat) (fo := 0) lI64 (mv rfl) rfl (by omega) (gt_some h23) rfl).take 1 (cs' := [(iv .i64 (gt v13 v18))]) rfl)) ?_
              refine cq rfl rfl rfl (opGeq (mv rfl) (Ev.const _)) ?_
              refine rn (al [1, 7, 13, 14, 106] [0, 1] rfl rfl rfl (sq ?_))
              refine CodeT.join (fun z : (List Swap) × Value => (ref09_Given_j26 φ v18 (ref09_Given_L21 φ v2 v13 (ref09_Given_j17 φ) n21)) z.1) r (fun z => ⟨Slots.of [(1, (iv .i64 v2)), (7, (eqv sv9)), (13, (eqv z.2)), (14, (iv .i64 v18))], [(row 3 eI64 1 v13 sv9), (row 43 eSwap 3 z.1 z.2)]⟩) (fun z h => ?_) (fun hJ26 => ?_)
              · obtain ⟨v24, sv25⟩ := z
                replace h : (ref09_Given_j26 φ v18 (ref09_Given_L21 φ v2 v13 (ref09_Given_j17 φ) n21)) v24 = some r := h
                unfold ref09_Given_j26 at h
                refine AtX.in_normal ?_
                refine al [1, 7, 13, 14] [0, 1] rfl rfl rfl ?_
                refine sq (cr [0, 1, 2] rfl ?_)
                refine cq rfl rfl rfl (opMove (mv rfl)) ?_
                refine cq rfl rfl rfl (opAdd (mv rfl) (Ev.const _)) ?_
                refine cq rfl rfl rfl (opAssign (mv rfl)) ?_
                refine rn ?_
                exact AtX.to (ih21 ((W (v18 + 1)), v24, sv25) h) [0, 1] (sl rfl) (ol rfl) rfl
              · refine CodeT.cond (decide (0 ≤ (gt v13 v18))) (evBool (mv rfl)) (fun c27 => ?_) (fun c27 => ?_)
                · rw [if_pos c27] at h
                  refine cr [0, 1, 2, 3, 4, 5, 6, 7, 8, 9, 10] rfl ?_
                  refine cq rfl rfl rfl (opMove (mv rfl)) ?_
                  refine cq rfl rfl rfl (opMove (mv rfl)) ?_
                  refine cq rfl rfl rfl (opMove (mv rfl)) ?_
                  refine cq rfl rfl rfl (opMove (mv rfl)) ?_
                  refine cq rfl rfl rfl (opMove (mv rfl)) ?_
                  refine cq rfl rfl rfl (opIndexO 0 (ix41 H) (mv rfl) rfl (mv rfl) (h23).1 (h23).2) ?_
                  refine cq rfl rfl rfl (opLoad1 (tl3 H) ((Pt.row _ 0 (k := (v18 : Int).toNat) (fo := 0) lI64 (mv rfl) rfl (by omega) (gt_some h23) rfl).take 1 (cs' := [(iv .i64 (gt v13 v18))]) rfl)) ?_
                  refine cq rfl rfl rfl (opBuild [.int .i64 0, .int .i64 0, .int .i64 0] [(0, [(iv .i64 v2)]), (1, [(iv .i64 v18)]), (2, [(iv .i64 (gt v13 v18))])] (out := [(iv .i64 v2), (iv .i64 v18), (iv .i64 (gt v13 v18))]) (ze43 H) rfl (tb43 H) ⟨(tp43_0 H), Nat.le_of_ble_eq_true rfl, (Ce.one (mv rfl) (One.eqv rfl)), ⟨(tp43_1 H), Nat.le_of_ble_eq_true rfl, (Ce.one (mv rfl) (One.eqv rfl)), ⟨(tp43_2 H), Nat.le_of_ble_eq_true rfl, (Ce.one (mv rfl) (One.eqv rfl)), trivial⟩⟩⟩ rfl) ?_
                  refine RunOps.cons rfl rfl rfl (opBuildSlice (e := eSwap) [(Swap.mk v2 v18 (gt v13 v18))] (sl24 H) lSwap rfl (by decide) ⟨rfl, (Ce.agg (mv rfl)), trivial⟩ fun sv28 => ?_)
                  refine ckE h fun h29 h => ?_
                  refine RunOps.cons rfl rfl rfl (opAppend 1 (l := v19) (m := [(Swap.mk v2 v18 (gt v13 v18))]) (sl24 H) lSwap (mv rfl) rfl (Src.row 2 (mv rfl) rfl) h29 (fits_max (by decide) h29) fun sv30 => ?_)
                  refine cq rfl rfl rfl (opAssign (mv rfl)) ?_
                  refine rn ?_
                  exact AtX.to (hJ26 ((v19 ++ [(Swap.mk v2 v18 (gt v13 v18))]), sv30) h) [0, 1] (sl rfl) (ol rfl) rfl
                · rw [if_neg (bne_true c27)] at h
                  refine CodeT.skip ?_
                  exact AtX.to (hJ26 (v19, sv20) h) [0, 1] (sl rfl) (ol rfl) rfl
            · rw [if_neg (bne_true c22)] at h
              refine CodeT.exit ?_
              refine AtX.then_exit ?_
              refine AtX.then_exit ?_
              refine AtX.in_hit ?_
              exact AtX.to (hJ17 (v19, sv20) h) [1] (sl rfl) (ol rfl) rfl
        · refine CodeT.block ?_
          refine CodeT.to (CodeT.loop (fun n (z : Int × (List Int)) => ref09_Given_L33 φ v1 (ref09_Given_j14 φ v2) n z.1 z.2) r (fun z => ⟨Slots.of [(1, (iv .i64 v2)), (2, (eqv (.pointer (some ⟨b3, 0, none⟩)))), (7, (eqv sv9)), (9, (iv .i64 z.1))], [(box b3 27 (eFleet v1)), (row 3 eI64 1 z.2 sv9)]⟩) (fun z => rfl) (fun n33 z ih33 h => ?_) φ (0, (setAt v10 v2 0)) h) [0, 1] (sl rfl) (ol rfl) rfl
          obtain ⟨v31, v32⟩ := z
          replace h : ref09_Given_L33 φ v1 (ref09_Given_j14 φ v2) (n33 + 1) v31 v32 = some r := h
          rw [ref09_Given_L33] at h
          refine cs (cs (cr [0, 1, 2, 3, 4] rfl ?_))
          refine cq rfl rfl rfl (opMove (mv rfl)) ?_
          refine cq rfl rfl rfl (opFieldP (fo27_0 H) (mv rfl)) ?_
          refine cq rfl rfl rfl (opLoad1 (tl22 H) ((Pt.box 0 (mv rfl) rfl rfl).take 1 (cs' := [(ro eWagonType 8 v1.fTypes)]) rfl)) ?_
          refine cq rfl rfl rfl (opLenR (il22 H) (mv rfl)) ?_
          refine cq rfl rfl rfl (opLss (mv rfl) (mv rfl)) ?_
          refine rn (al [1, 2, 7, 9, 47] [0, 1] rfl rfl rfl (sq ?_))
          refine CodeT.cond (decide (v31 < (v1.fTypes.length : Int))) (evBool (mv rfl)) (fun c34 => ?_) (fun c34 => ?_)
          · rw [if_pos c34] at h
            refine CodeT.skip ?_
            refine al [1, 2, 7, 9] [0, 1] rfl rfl rfl ?_
            refine sq (cs ?_)
            refine CodeT.join (fun z : (List Int) => (ref09_Given_j36 φ v31 (ref09_Given_L33 φ v1 (ref09_Given_j14 φ v2) n33)) z) r (fun z => ⟨Slots.of [(1, (iv .i64 v2)), (2, (eqv (.pointer (some ⟨b3, 0, none⟩)))), (7, (eqv sv9)), (9, (iv .i64 v31))], [(box b3 27 (eFleet v1)), (row 3 eI64 1 z sv9)]⟩) (fun v35 h => ?_) (fun hJ36 => ?_)
            · replace h : (ref09_Given_j36 φ v31 (ref09_Given_L33 φ v1 (ref09_Given_j14 φ v2) n33)) v35 = some r := h
              unfold ref09_Given_j36 at h
              refine al [1, 2, 7, 9] [0, 1] rfl rfl rfl ?_
              refine sq (cr [0, 1, 2] rfl ?_)
              refine cq rfl rfl rfl (opMove (mv rfl)) ?_
              refine cq rfl rfl rfl (opAdd (mv rfl) (Ev.const _)) ?_
              refine cq rfl rfl rfl (opAssign (mv rfl)) ?_
              refine rn ?_
              exact AtX.to (ih33 ((W (v31 + 1)), v35) h) [0, 1] (sl rfl) (ol rfl) rfl
            · refine CodeT.block ?_
              refine cs (cr [0] rfl ?_)
              refine cq rfl rfl rfl (opAssign (Ev.const _)) ?_
              refine rn (al [1, 2, 7, 9, 10] [0, 1] rfl rfl rfl (sq ?_))
              refine CodeT.block ?_
              refine CodeT.to (CodeT.loop (fun n (z : Int × (List Int)) => ref09_Given_L39 φ v1 (ref09_Given_j36 φ v31 (ref09_Given_L33 φ v1 (ref09_Given_j14 φ v2) n33)) n z.1 z.2) r (fun z => ⟨Slots.of [(1, (iv .i64 v2)), (2, (eqv (.pointer (some ⟨b3, 0, none⟩)))), (7, (eqv sv9)), (9, (iv .i64 v31)), (10, (iv .i64 z.1))], [(box b3 27 (eFleet v1)), (row 3 eI64 1 z.2 sv9)]⟩) (fun z => rfl) (fun n39 z ih39 h => ?_) φ (0, v32) h) [0, 1] (sl rfl) (ol rfl) rfl
              obtain ⟨v37, v38⟩ := z
              replace h : ref09_Given_L39 φ v1 (ref09_Given_j36 φ v31 (ref09_Given_L33 φ v1 (ref09_Given_j14 φ v2) n33)) (n39 + 1) v37 v38 = some r := h
              rw [ref09_Given_L39] at h
              refine cs (cs (cr [0, 1, 2, 3, 4] rfl ?_))
              refine cq rfl rfl rfl (opMove (mv rfl)) ?_
              refine cq rfl rfl rfl (opFieldP (fo27_2 H) (mv rfl)) ?_
              refine cq rfl rfl rfl (opLoad1 (tl24 H) ((Pt.box 0 (mv rfl) rfl rfl).take 1 (cs' := [(ro eSwap 3 v1.fSwaps)]) rfl)) ?_
              refine cq rfl rfl rfl (opLenR (il24 H) (mv rfl)) ?_
              refine cq rfl rfl rfl (opLss (mv rfl) (mv rfl)) ?_
              refine rn (al [1, 2, 7, 9, 10, 54] [0, 1] rfl rfl rfl (sq ?_))
              refine CodeT.cond (decide (v37 < (v1.fSwaps.length : Int))) (evBool (mv rfl)) (fun c40 => ?_) (fun c40 => ?_)
              · rw [if_pos c40] at h
                refine CodeT.skip ?_
                refine al [1, 2, 7, 9, 10] [0, 1] rfl rfl rfl ?_
                refine sq (cs ?_)
                refine CodeT.join (fun z : (List Int) => (ref09_Given_j42 φ v37 (ref09_Given_L39 φ v1 (ref09_Given_j36 φ v31 (ref09_Given_L33 φ v1 (ref09_Given_j14 φ v2) n33)) n39)) z) r (fun z => ⟨Slots.of [(1, (iv .i64 v2)), (2, (eqv (.pointer (some ⟨b3, 0, none⟩)))), (7, (eqv sv9)), (9, (iv .i64 v31)), (10, (iv .i64 v37))], [(box b3 27 (eFleet v1)), (row 3 eI64 1 z sv9)]⟩) (fun v41 h => ?_) (fun hJ42 => ?_)
                · replace h : (ref09_Given_j42 φ v37 (ref09_Given_L39 φ v1 (ref09_Given_j36 φ v31 (ref09_Given_L33 φ v1 (ref09_Given_j14 φ v2) n33)) n39)) v41 = some r := h
                  unfold ref09_Given_j42 at h
                  refine al [1, 2, 7, 9, 10] [0, 1] rfl rfl rfl ?_
                  refine sq (cr [0, 1, 2] rfl ?_)
                  refine cq rfl rfl rfl (opMove (mv rfl)) ?_
                  refine cq rfl rfl rfl (opAdd (mv rfl) (Ev.const _)) ?_
                  refine cq rfl rfl rfl (opAssign (mv rfl)) ?_
                  refine rn ?_
                  exact AtX.to (ih39 ((W (v37 + 1)), v41) h) [0, 1] (sl rfl) (ol rfl) rfl
                · refine CodeT.block ?_
                  refine cs (cr [0, 1, 2, 3, 4, 5, 6] rfl ?_)
                  refine cq rfl rfl rfl (opFieldP (fo27_2 H) (mv rfl)) ?_
                  refine cq rfl rfl rfl (opLoad1 (tl24 H) ((Pt.box 0 (mv rfl) rfl rfl).take 1 (cs' := [(ro eSwap 3 v1.fSwaps)]) rfl)) ?_
                  refine cq rfl rfl rfl (opMove (mv rfl)) ?_
                  refine ckE h fun h43 h => ?_
                  refine cq rfl rfl rfl (opIndexR (e := eSwap) (y := (gt v1.fSwaps v37)) (ix24 H) (mv rfl) (mv rfl) (h43).1 (gt_some h43)) ?_
                  refine RunOps.cons_q (agg (eSwap (gt v1.fSwaps v37))) rfl rfl rfl (opLoadN (tl43 H) (Pt.rop (mv rfl))) ?_
                  refine RunOps.cons rfl rfl rfl (opAlloc [.int .i64 0, .int .i64 0, .int .i64 0] (ze43 H) rfl fun b44 => ?_)
                  refine RunOps.cons rfl rfl rfl (opStore 2 (cells := [(iv .i64 0), (iv .i64 0), (iv .i64 0)]) (cs := (eSwap (gt v1.fSwaps v37))) (out := (eSwap (gt v1.fSwaps v37))) (tl43 H) (mv rfl) (Ce.agg (mv rfl)) rfl rfl (Nat.le_of_ble_eq_true rfl) rfl ?_)
                  refine rn (al [1, 2, 7, 9, 10, 11] [0, 1, 2] rfl rfl rfl (sq (cs (cs (cr [0, 1, 2, 3, 4, 5] rfl ?_)))))
                  refine cq rfl rfl rfl (opMove (mv rfl)) ?_
                  refine cq rfl rfl rfl (opFieldP (fo43_0 H) (mv rfl)) ?_
                  refine cq rfl rfl rfl (opLoad1 (tl3 H) ((Pt.box 2 (mv rfl) rfl rfl).take 1 (cs' := [(iv .i64 ((gt v1.fSwaps v37).fWanted))]) rfl)) ?_
                  refine ckE h fun h45 h => ?_
                  refine cq rfl rfl rfl (opIndexO 1 (ix41 H) (mv rfl) rfl (mv rfl) (h45).1 (h45).2) ?_
                  refine cq rfl rfl rfl (opLoad1 (tl3 H) ((Pt.row _ 1 (k := ((gt v1.fSwaps v37).fWanted : Int).toNat) (fo := 0) lI64 (mv rfl) rfl (by omega) (gt_some h45) rfl).take 1 (cs' := [(iv .i64 (gt v38 ((gt v1.fSwaps v37).fWanted)))]) rfl)) ?_
                  refine cq rfl rfl rfl (opLss (mv rfl) (Ev.const _)) ?_
                  refine rn (al [1, 2, 7, 9, 10, 11, 67] [0, 1, 2] rfl rfl rfl (sq ?_))
                  refine CodeT.cond (decide ((gt v38 ((gt v1.fSwaps v37).fWanted)) < 0)) (evBool (mv rfl)) (fun c46 => ?_) (fun c46 => ?_)
                  · rw [if_pos c46] at h
                    refine CodeT.exit ?_
                    refine AtX.then_exit ?_
                    refine AtX.in_hit ?_
                    exact AtX.to (hJ42 v38 h) [0, 1] (sl rfl) (ol rfl) rfl
                  · rw [if_neg (bne_true c46)] at h
                    refine CodeT.skip ?_
                    refine al [1, 2, 7, 9, 10, 11] [0, 1, 2] rfl rfl rfl ?_
                    refine sq (cs ?_)
                    refine CodeT.draw (QR := [(0, (eqv sv9)), (1, (eqv (.pointer (some ⟨b44, 0, none⟩)))), (2, (iv .i64 ((gt v1.fSwaps v37).fWanted))), (3, (rowp sv9 (((gt v1.fSwaps v37).fWanted : Int).toNat * 1))), (4, (iv .i64 (gt v38 ((gt v1.fSwaps v37).fWanted)))), (5, (eqv (.pointer (some ⟨b44, 2, none⟩)))), (6, (iv .i64 ((gt v1.fSwaps v37).fCost))), (7, (iv .i64 (W ((gt v38 ((gt v1.fSwaps v37).fWanted)) + ((gt v1.fSwaps v37).fCost))))), (8, (iv .i64 (W ((gt v38 ((gt v1.fSwaps v37).fWanted)) + ((gt v1.fSwaps v37).fCost)))))]) (tab := [(some 68, []), (some 69, []), (some 70, [1]), (some 71, [0, 2]), (some 72, [3]), (some 73, []), (some 74, [5]), (some 75, [4, 6]), (some 12, [7, 0, 1, 2, 3, 4, 5, 6, 7])]) (mixed H) ?_
                    refine Reg.intro [] [] (by kernel_rfl) rfl ⟨rfl, rfl, rfl, rfl, rfl, rfl, rfl, rfl, rfl, trivial⟩ ⟨(fun _ => ⟨_, rfl, (opMove (mv rfl))⟩), (fun _ => ⟨_, rfl, (opFieldP (fo43_0 H) (mv rfl))⟩), (fun _ => ⟨_, rfl, (opLoad1 (tl3 H) ((Pt.box 2 (mv rfl) rfl rfl).take 1 (cs' := [(iv .i64 ((gt v1.fSwaps v37).fWanted))]) rfl))⟩), (fun _ => ⟨_, rfl, (opIndexO 1 (ix41 H) (mv rfl) rfl (mv rfl) (h45).1 (h45).2)⟩), (fun _ => ⟨_, rfl, (opLoad1 (tl3 H) ((Pt.row _ 1 (k := ((gt v1.fSwaps v37).fWanted : Int).toNat) (fo := 0) lI64 (mv rfl) rfl (by omega) (gt_some h45) rfl).take 1 (cs' := [(iv .i64 (gt v38 ((gt v1.fSwaps v37).fWanted)))]) rfl))⟩), (fun _ => ⟨_, rfl, (opFieldP (fo43_2 H) (mv rfl))⟩), (fun _ => ⟨_, rfl, (opLoad1 (tl3 H) ((Pt.box 2 (mv rfl) rfl rfl).take 1 (cs' := [(iv .i64 ((gt v1.fSwaps v37).fCost))]) rfl))⟩), (fun _ => ⟨_, rfl, (opAdd (mv rfl) (mv rfl))⟩), (fun _ => ⟨_, rfl, (opAssign (mv rfl))⟩), trivial⟩ trivial (fun _ => ?_)
                    refine al [1, 2, 7, 9, 10, 11, 12] [0, 1, 2] rfl rfl rfl ?_
                    refine sq (cs (cr [0, 1, 2, 3, 4, 5, 6, 7, 8, 9, 10, 11, 12, 13, 14] rfl ?_))
                    refine cq rfl rfl rfl (opMove (mv rfl)) ?_
                    refine cq rfl rfl rfl (opFieldP (fo43_1 H) (mv rfl)) ?_
                    refine cq rfl rfl rfl (opLoad1 (tl3 H) ((Pt.box 2 (mv rfl) rfl rfl).take 1 (cs' := [(iv .i64 ((gt v1.fSwaps v37).fGiven))]) rfl)) ?_
                    refine ckE h fun h47 h => ?_
                    refine cq rfl rfl rfl (opIndexO 1 (ix41 H) (mv rfl) rfl (mv rfl) (h47).1 (h47).2) ?_
                    refine cq rfl rfl rfl (opLoad1 (tl3 H) ((Pt.row _ 1 (k := ((gt v1.fSwaps v37).fGiven : Int).toNat) (fo := 0) lI64 (mv rfl) rfl (by omega) (gt_some h47) rfl).take 1 (cs' := [(iv .i64 (gt v38 ((gt v1.fSwaps v37).fGiven)))]) rfl)) ?_
                    refine cq rfl rfl rfl (opLss (mv rfl) (Ev.const _)) ?_
                    refine cq rfl rfl rfl (opMove (mv rfl)) ?_
                    refine cg rfl rfl rfl rfl rfl (fun g48 => opMove (mv rfl)) ?_
                    refine cg rfl rfl rfl rfl rfl (fun g49 => opMove (mv rfl)) ?_
                    refine cg rfl rfl rfl rfl rfl (fun g50 => opFieldP (fo43_1 H) (mv rfl)) ?_
                    refine cg rfl rfl rfl rfl rfl (fun g51 => opLoad1 (tl3 H) ((Pt.box 2 (Ev.cnd (mv rfl) g51) rfl rfl).take 1 (cs' := [(iv .i64 ((gt v1.fSwaps v37).fGiven))]) rfl)) ?_
                    refine cg rfl rfl rfl rfl rfl (fun g52 => opIndexO 1 (ix41 H) (Ev.cnd (mv rfl) g52) rfl (Ev.cnd (mv rfl) g52) (h47).1 (h47).2) ?_
                    refine cg rfl rfl rfl rfl rfl (fun g53 => opLoad1 (tl3 H) ((Pt.row _ 1 (k := ((gt v1.fSwaps v37).fGiven : Int).toNat) (fo := 0) lI64 (Ev.cnd (mv rfl) g53) rfl (by omega) (gt_some h47) rfl).take 1 (cs' := [(iv .i64 (gt v38 ((gt v1.fSwaps v37).fGiven)))]) rfl)) ?_
                    refine cg rfl rfl rfl rfl rfl (fun g54 => opLss (Ev.cnd (mv rfl) g54) (Ev.cnd (mv rfl) g54)) ?_
                    refine cq rfl rfl rfl (opOr (mv rfl) (Ev.const _) (fun g55 => (Ev.cnd (mv rfl) g55))) ?_
                    refine rn (al [1, 2, 7, 9, 10, 11, 12, 90] [0, 1, 2] rfl rfl rfl (sq ?_))
                    refine CodeT.cond (decide ((gt v38 ((gt v1.fSwaps v37).fGiven)) < 0) || decide ((W ((gt v38 ((gt v1.fSwaps v37).fWanted)) + ((gt v1.fSwaps v37).fCost))) < (gt v38 ((gt v1.fSwaps v37).fGiven)))) (evBool (mv rfl)) (fun c56 => ?_) (fun c56 => ?_)
                    · rw [if_pos c56] at h
                      refine cr [0, 1, 2, 3, 4, 5] rfl ?_
                      refine cq rfl rfl rfl (opMove (mv rfl)) ?_
                      refine cq rfl rfl rfl (opFieldP (fo43_1 H) (mv rfl)) ?_
                      refine cq rfl rfl rfl (opLoad1 (tl3 H) ((Pt.box 2 (mv rfl) rfl rfl).take 1 (cs' := [(iv .i64 ((gt v1.fSwaps v37).fGiven))]) rfl)) ?_
                      refine cq rfl rfl rfl (opMove (mv rfl)) ?_
                      refine cq rfl rfl rfl (opIndexO 1 (ix41 H) (mv rfl) rfl (mv rfl) (h47).1 (h47).2) ?_
                      refine RunOps.cons rfl rfl rfl (opStoreO 1 (k := ((gt v1.fSwaps v37).fGiven : Int).toNat) (fo := 0) (z' := (W ((gt v38 ((gt v1.fSwaps v37).fWanted)) + ((gt v1.fSwaps v37).fCost)))) (cs := [(iv .i64 (W ((gt v38 ((gt v1.fSwaps v37).fWanted)) + ((gt v1.fSwaps v37).fCost))))]) lI64 (tl3 H) (mv rfl) (Ce.one (mv rfl) (One.eqv rfl)) rfl rfl (by omega) (gt_some h47) (Nat.le_of_ble_eq_true rfl) rfl ?_)
                      refine rn ?_
                      refine AtX.in_normal ?_
                      exact AtX.to (hJ42 (setAt v38 ((gt v1.fSwaps v37).fGiven) (W ((gt v38 ((gt v1.fSwaps v37).fWanted)) + ((gt v1.fSwaps v37).fCost)))) h) [0, 1] (sl rfl) (ol rfl) rfl
                    · rw [if_neg (bne_true c56)] at h
                      refine CodeT.skip ?_
                      refine AtX.in_normal ?_
                      exact AtX.to (hJ42 v38 h) [0, 1] (sl rfl) (ol rfl) rfl
              · rw [if_neg (bne_true c40)] at h
                refine CodeT.exit ?_
                refine AtX.then_exit ?_
                refine AtX.then_exit ?_
                refine AtX.in_hit ?_
                refine AtX.in_normal ?_
                exact AtX.to (hJ36 v38 h) [0, 1] (sl rfl) (ol rfl) rfl
          · rw [if_neg (bne_true c34)] at h
            refine CodeT.exit ?_
            refine AtX.then_exit ?_
            refine AtX.then_exit ?_
            refine AtX.in_hit ?_
            exact AtX.to (hJ14 v32 h) [1] (sl rfl) (ol rfl) rfl
      · refine CodeT.block ?_
        refine CodeT.to (CodeT.loop (fun n (z : Int × (List Int)) => ref09_Given_L59 φ (ref09_Given_j11 φ v1 v2) n z.1 z.2) r (fun z => ⟨Slots.of [(1, (iv .i64 v2)), (2, (eqv (.pointer (some ⟨b3, 0, none⟩)))), (7, (eqv sv9)), (8, (iv .i64 z.1))], [(box b3 27 (eFleet v1)), (row 3 eI64 1 z.2 sv9)]⟩) (fun z => rfl) (fun n59 z ih59 h => ?_) φ (0, (List.replicate ((v1.fTypes.length : Int) : Int).toNat 0)) h) [0, 1] (sl rfl) (ol rfl) rfl
        obtain ⟨v57, v58⟩ := z
        replace h : ref09_Given_L59 φ (ref09_Given_j11 φ v1 v2) (n59 + 1) v57 v58 = some r := h
        rw [ref09_Given_L59] at h
        refine cs (cs (cr [0, 1, 2, 3] rfl ?_))
        refine cq rfl rfl rfl (opMove (mv rfl)) ?_
        refine cq rfl rfl rfl (opMove (mv rfl)) ?_
        refine cq rfl rfl rfl (opLenO 1 (il41 H) (mv rfl) rfl) ?_
        refine cq rfl rfl rfl (opLss (mv rfl) (mv rfl)) ?_
        refine rn (al [1, 2, 7, 8, 34] [0, 1] rfl rfl rfl (sq ?_))
        refine CodeT.cond (decide (v57 < (v58.length : Int))) (evBool (mv rfl)) (fun c60 => ?_) (fun c60 => ?_)
        · rw [if_pos c60] at h
          refine CodeT.skip ?_
          refine al [1, 2, 7, 8] [0, 1] rfl rfl rfl ?_
          refine sq (cs ?_)
          refine CodeT.block ?_
          refine cr [0, 1, 2, 3] rfl ?_
          refine cq rfl rfl rfl (opMove (mv rfl)) ?_
          refine cq rfl rfl rfl (opMove (mv rfl)) ?_
          refine ckE h fun h61 h => ?_
          refine cq rfl rfl rfl (opIndexO 1 (ix41 H) (mv rfl) rfl (mv rfl) (h61).1 (h61).2) ?_
          refine RunOps.cons rfl rfl rfl (opStoreO 1 (k := (v57 : Int).toNat) (fo := 0) (z' := (-1)) (cs := [(iv .i64 (-1))]) lI64 (tl3 H) (mv rfl) (Ce.one (Ev.const _) (One.eqv rfl)) rfl rfl (by omega) (gt_some h61) (Nat.le_of_ble_eq_true rfl) rfl ?_)
          refine rn ?_
          refine AtX.in_normal ?_
          refine al [1, 2, 7, 8] [0, 1] rfl rfl rfl ?_
          refine sq (cr [0, 1, 2] rfl ?_)
          refine cq rfl rfl rfl (opMove (mv rfl)) ?_
          refine cq rfl rfl rfl (opAdd (mv rfl) (Ev.const _)) ?_
          refine cq rfl rfl rfl (opAssign (mv rfl)) ?_
          refine rn ?_
          exact AtX.to (ih59 ((W (v57 + 1)), (setAt v58 v57 (-1))) h) [0, 1] (sl rfl) (ol rfl) rfl
        · rw [if_neg (bne_true c60)] at h
          refine CodeT.exit ?_
          refine AtX.then_exit ?_
          refine AtX.then_exit ?_
          refine AtX.in_hit ?_
          exact AtX.to (hJ11 v58 h) [0, 1] (sl rfl) (ol rfl) rfl
theorem fleet_Clean_ok {P : Program} (H : P = Try.prog) (φ : Nat) (v1 : Fleet) (v2 : Int) (v3 : Int) (r : (Int × Int)) (h : fleet_Clean φ v1 v2 v3 = some r) : PureT P 14 [(agg (eFleet v1)), (iv .i64 v2), (iv .i64 v3)] (fun x news => x = tupv [(iv .i64 r.1), (iv .i64 r.2)] ∧ news = []) := by
  unfold fleet_Clean at h
  refine PureT.of_code' 35 (fn14 H) rfl rfl (Nat.le_of_ble_eq_true rfl) fun w0 base r0 wI => ?_
  refine cl [0, 1, 2] [] rfl rfl rfl ?_
  refine cs (cr [0, 1, 2, 3, 4] rfl ?_)
  refine RunOps.cons rfl rfl rfl (opBox (cs := (eFleet v1)) (Ce.agg (mv rfl)) fun b4 => ?_)
  refine RunOps.cons rfl rfl rfl (opBox (cs := [(iv .i64 v2)]) (Ce.one (mv rfl) (One.eqv rfl)) fun b5 => ?_)
  refine RunOps.cons rfl rfl rfl (opBox (cs := [(iv .i64 v3)]) (Ce.one (mv rfl) (One.eqv rfl)) fun b6 => ?_)
  refine cq rfl rfl rfl (opAssign (Ev.const _)) ?_
  refine cq rfl rfl rfl (opAssign (Ev.const _)) ?_
  refine rn (al [3, 4, 5] [0, 1, 2] rfl rfl rfl (sq (cs (cs (cr [0, 1, 2] rfl ?_)))))
  refine RunOps.cons_q (agg (eFleet v1)) rfl rfl rfl (opLoadN (tl27 H) ((Pt.box 0 (mv rfl) rfl rfl).take 4 (cs' := (eFleet v1)) rfl)) ?_
  refine bindE h fun y7 ey7 h => ?_
  refine cq rfl rfl rfl (opCallQ (fnok18 H) (args := [(agg (eFleet v1))]) ⟨EvF.of (mv rfl) FEnt.refl, trivial⟩ (fleet_Check_ok H φ v1 _ ey7) flat_eqv) ?_
  refine cq rfl rfl rfl (opAssign (mv rfl)) ?_
  refine rn (al [3, 4, 5, 8] [0, 1, 2] rfl rfl rfl (sq (cs (cr [0, 1] rfl ?_))))
  refine cq rfl rfl rfl (opMove (mv rfl)) ?_
  refine cq rfl rfl rfl (opNeq (mv rfl) (Ev.const _)) ?_
  refine rn (al [3, 4, 5, 8, 13] [0, 1, 2] rfl rfl rfl (sq ?_))
  refine CodeT.cond (y7 != 0) (evBool (mv rfl)) (fun c8 => ?_) (fun c8 => ?_)
  · rw [if_pos c8] at h
    refine cs (cr [0, 1, 2] rfl ?_)
    refine cq rfl rfl rfl (opMove (mv rfl)) ?_
    refine cq rfl rfl rfl (opAssign (Ev.const _)) ?_
    refine cq rfl rfl rfl (opAssign (mv rfl)) ?_
    refine rn (al [6, 7] [] rfl rfl rfl (sq ?_))
    refine CodeT.ret ?_
    refine AtX.then_ret ?_
    refine AtX.ret' (tupv [(iv .i64 0), (iv .i64 y7)]) (ResOK.two Try.results14 rfl rfl) [] [] trivial rfl ?_
    obtain rfl := Option.some.inj h
    exact ⟨rfl, rfl⟩
  · rw [if_neg (bne_true c8)] at h
    refine CodeT.skip ?_
    refine al [3, 4, 5] [0, 1, 2] rfl rfl rfl ?_
    refine sq (cs (cs (cr [0, 1, 2, 3, 4, 5, 6, 7] rfl ?_)))
    refine cq rfl rfl rfl (opLoad1 (tl3 H) ((Pt.box 1 (mv rfl) rfl rfl).take 1 (cs' := [(iv .i64 v2)]) rfl)) ?_
    refine bindE h fun y9 ey9 h => ?_
    refine cq rfl rfl rfl (opCallQ (fnok29 H) (args := [(iv .i64 v2), (iv .i64 0), (iv .i64 63)]) ⟨EvF.of (mv rfl) FEnt.refl, EvF.of (Ev.const _) FEnt.refl, EvF.of (Ev.const _) FEnt.refl, trivial⟩ (fleet_between_ok H φ v2 0 63 _ ey9) flat_eqv) ?_
    refine cq rfl rfl rfl (opNot (mv rfl)) ?_
    refine cq rfl rfl rfl (opMove (mv rfl)) ?_
    refine cg rfl rfl rfl rfl rfl (fun g10 => opLoad1 (tl3 H) ((Pt.box 2 (mv rfl) rfl rfl).take 1 (cs' := [(iv .i64 v3)]) rfl)) ?_
    refine bindE h fun y12 ey12 h => ?_
    refine cg rfl rfl rfl rfl rfl (fun g11 => opCallQ (fnok29 H) (args := [(iv .i64 v3), (iv .i64 0), (iv .i64 63)]) ⟨EvF.of (Ev.cnd (mv rfl) g11) FEnt.refl, EvF.of (Ev.const _) FEnt.refl, EvF.of (Ev.const _) FEnt.refl, trivial⟩ (fleet_between_ok H φ v3 0 63 _ (gcall_pos ey12 g11)) flat_eqv) ?_
    refine cg rfl rfl rfl rfl rfl (fun g13 => opNot (Ev.cnd (mv rfl) g13)) ?_
    refine cq rfl rfl rfl (opOr (mv rfl) (Ev.const _) (fun g14 => (Ev.cnd (mv rfl) g14))) ?_
    refine rn (al [3, 4, 5, 22] [0, 1, 2] rfl rfl rfl (sq ?_))
    refine CodeT.cond ((!y9) || (!y12)) (evBool (mv rfl)) (fun c15 => ?_) (fun c15 => ?_)
    · rw [if_pos c15] at h
      refine cs (cr [0, 1] rfl ?_)
      refine cq rfl rfl rfl (opAssign (Ev.const _)) ?_
      refine cq rfl rfl rfl (opAssign (Ev.const _)) ?_
      refine rn (al [6, 7] [] rfl rfl rfl (sq ?_))
      refine CodeT.ret ?_
      refine AtX.then_ret ?_
      refine AtX.ret' (tupv [(iv .i64 0), (iv .i64 1)]) (ResOK.two Try.results14 rfl rfl) [] [] trivial rfl ?_
      obtain rfl := Option.some.inj h
      exact ⟨rfl, rfl⟩
    · rw [if_neg (bne_true c15)] at h
      refine CodeT.skip ?_
      refine al [3, 4, 5] [0, 1, 2] rfl rfl rfl ?_
      refine sq (cs (cr [0, 1, 2, 3, 4] rfl ?_))
      refine cq rfl rfl rfl (opFieldP (fo27_3 H) (mv rfl)) ?_
      refine cq rfl rfl rfl (opLoad1 (tl25 H) ((Pt.box 0 (mv rfl) rfl rfl).take 1 (cs' := [(ro eWash 3 v1.fWashes)]) rfl)) ?_
      refine cq rfl rfl rfl (opMakeFunc (vs := #[(.pointer (some ⟨b5, 0, none⟩)), (.pointer (some ⟨b6, 0, none⟩))]) (fun a r w hs => capN ⟨Ev.val (mv rfl) a r w hs, Ev.val (mv rfl) a r w hs, trivial⟩)) ?_
      refine RunOps.cons rfl rfl rfl (opCallT (fnok31 H) (Ev.func _) (args := [(ro eWash 3 v1.fWashes), (eqv (.func (.func 32) #[] #[(.pointer (some ⟨b5, 0, none⟩)), (.pointer (some ⟨b6, 0, none⟩))]))]) ⟨(mv rfl), (mv rfl), trivial⟩ (CallT.of_code' 19 (fn31 H) rfl rfl (Nat.le_of_ble_eq_true rfl) fun r015 wI15 => ?_))
      refine cl [0, 1] [0, 1, 2] rfl rfl rfl ?_
      refine cs (cr [0] rfl ?_)
      refine cq rfl rfl rfl (opAssign (Ev.const _)) ?_
      refine rn (al [0, 1] [0, 1, 2] rfl rfl rfl (sq (cs (cs (cr [0, 1, 2] rfl ?_)))))
      refine cq rfl rfl rfl (opMove (mv rfl)) ?_
      refine cq rfl rfl rfl (opLenR (il25 H) (mv rfl)) ?_
      refine cq rfl rfl rfl (opMove (Ev.const _)) ?_
      refine rn (al [0, 1, 7, 8] [0, 1, 2] rfl rfl rfl (sq ?_))
      refine CodeT.join (fun z : Unit => (fleet_Clean_j16 φ v1)) r (fun z => ⟨Slots.of [], [(box b4 27 (eFleet v1)), (box b5 3 [(iv .i64 v2)]), (box b6 3 [(iv .i64 v3)])]⟩) (fun z h => ?_) (fun hJ16 => ?_)
      · replace h : (fleet_Clean_j16 φ v1) = some r := h
        unfold fleet_Clean_j16 at h
        refine al [] [0, 1, 2] rfl rfl rfl ?_
        refine sq (cs (cr [0] rfl ?_))
        refine cq rfl rfl rfl (opAssign (Ev.const _)) ?_
        refine rn (al [4] [0, 1, 2] rfl rfl rfl (sq ?_))
        refine CodeT.ret ?_
        refine AtX.ret' (iv .i64 (-1)) (ResOK.one Try.results31 rfl) [0, 1, 2] [(box b4 27 (eFleet v1)), (box b5 3 [(iv .i64 v2)]), (box b6 3 [(iv .i64 v3)])] (ol rfl) rfl ?_
        refine cq rfl rfl rfl (opAssign (mv rfl)) ?_
        refine rn (al [3, 9] [0] rfl rfl rfl (sq (cs (cs (cr [0, 1] rfl ?_)))))
        refine cq rfl rfl rfl (opMove (mv rfl)) ?_
        refine cq rfl rfl rfl (opLss (mv rfl) (Ev.const _)) ?_
        refine rn (al [3, 9, 28] [0] rfl rfl rfl (sq ?_))
        refine CodeT.cond (decide ((-1) < 0)) (evBool (mv rfl)) (fun c17 => ?_) (fun c17 => ?_)
        · rw [if_pos c17] at h
          refine cs (cr [0, 1] rfl ?_)
          refine cq rfl rfl rfl (opAssign (Ev.const _)) ?_
          refine cq rfl rfl rfl (opAssign (Ev.const _)) ?_
          refine rn (al [6, 7] [] rfl rfl rfl (sq ?_))
          refine CodeT.ret ?_
          refine AtX.then_ret ?_
          refine AtX.ret' (tupv [(iv .i64 0), (iv .i64 0)]) (ResOK.two Try.results14 rfl rfl) [] [] trivial rfl ?_
          obtain rfl := Option.some.inj h
          exact ⟨rfl, rfl⟩
        · rw [if_neg (bne_true c17)] at h
          refine CodeT.skip ?_
          refine al [3, 9] [0] rfl rfl rfl ?_
          refine sq (cs (cr [0, 1, 2, 3, 4, 5, 6, 7] rfl ?_))
          refine cq rfl rfl rfl (opFieldP (fo27_3 H) (mv rfl)) ?_
          refine cq rfl rfl rfl (opLoad1 (tl25 H) ((Pt.box 0 (mv rfl) rfl rfl).take 1 (cs' := [(ro eWash 3 v1.fWashes)]) rfl)) ?_
          refine cq rfl rfl rfl (opMove (mv rfl)) ?_
          refine ckE h fun h18 h => ?_
          refine cq rfl rfl rfl (opIndexR (e := eWash) (y := (gt v1.fWashes (-1))) (ix25 H) (mv rfl) (mv rfl) (h18).1 (gt_some h18)) ?_
          refine cq rfl rfl rfl (opFieldRT (fo86_2 H) (mv rfl) (cs' := [(iv .i64 ((gt v1.fWashes (-1)).fMinutes))]) 1 rfl) ?_
          refine cq rfl rfl rfl (opLoad1 (tl3 H) (Pt.rop (mv rfl))) ?_
          refine cq rfl rfl rfl (opAssign (mv rfl)) ?_
          refine cq rfl rfl rfl (opAssign (Ev.const _)) ?_
          refine rn (al [6, 7] [] rfl rfl rfl (sq ?_))
          refine CodeT.ret ?_
          refine AtX.ret' (tupv [(iv .i64 ((gt v1.fWashes (-1)).fMinutes)), (iv .i64 0)]) (ResOK.two Try.results14 rfl rfl) [] [] trivial rfl ?_
          obtain rfl := Option.some.inj h
          exact ⟨rfl, rfl⟩
      · refine CodeT.block ?_
        refine CodeT.to (CodeT.loop (fun n (z : Int) => fleet_Clean_L20 φ v1 v2 v3 (fleet_Clean_j16 φ v1) n z) r (fun z => ⟨Slots.of [(0, (ro eWash 3 v1.fWashes)), (1, (eqv (.func (.func 32) #[] #[(.pointer (some ⟨b5, 0, none⟩)), (.pointer (some ⟨b6, 0, none⟩))]))), (7, (iv .i64 (v1.fWashes.length : Int))), (8, (iv .i64 z))], [(box b4 27 (eFleet v1)), (box b5 3 [(iv .i64 v2)]), (box b6 3 [(iv .i64 v3)])]⟩) (fun z => rfl) (fun n20 v19 ih20 h => ?_) φ 0 h) [0, 1, 2] (sl rfl) (ol rfl) rfl
        replace h : fleet_Clean_L20 φ v1 v2 v3 (fleet_Clean_j16 φ v1) (n20 + 1) v19 = some r := h
        rw [fleet_Clean_L20] at h
        refine cs (cr [0] rfl ?_)
        refine cq rfl rfl rfl (opLss (mv rfl) (mv rfl)) ?_
        refine rn (al [0, 1, 7, 8, 9] [0, 1, 2] rfl rfl rfl (sq (cs ?_)))
        refine CodeT.cond (decide (v19 < (v1.fWashes.length : Int))) (evBool (mv rfl)) (fun c21 => ?_) (fun c21 => ?_)
        · rw [if_pos c21] at h
          refine CodeT.skip ?_
          refine al [0, 1, 7, 8] [0, 1, 2] rfl rfl rfl ?_
          refine sq (cs ?_)
          refine CodeT.block ?_
          refine cs (cr [0, 1] rfl ?_)
          refine cq rfl rfl rfl (opMove (mv rfl)) ?_
          refine cq rfl rfl rfl (opAssign (mv rfl)) ?_
          refine rn (al [0, 1, 5, 7, 8] [0, 1, 2] rfl rfl rfl (sq (cs (cr [0, 1, 2, 3, 4, 5] rfl ?_))))
          refine cq rfl rfl rfl (opMove (mv rfl)) ?_
          refine cq rfl rfl rfl (opMove (mv rfl)) ?_
          refine cq rfl rfl rfl (opMove (mv rfl)) ?_
          refine ckE h fun h22 h => ?_
          refine cq rfl rfl rfl (opIndexR (e := eWash) (y := (gt v1.fWashes v19)) (ix25 H) (mv rfl) (mv rfl) (h22).1 (gt_some h22)) ?_
          refine RunOps.cons_q (agg (eWash (gt v1.fWashes v19))) rfl rfl rfl (opLoadN (tl86 H) (Pt.rop (mv rfl))) ?_
          refine RunOps.cons rfl rfl rfl (opCallT (fnok32 H) (mv rfl) (args := [(agg (eWash (gt v1.fWashes v19)))]) ⟨(mv rfl), trivial⟩ (CallT.of_code' 15 (fn32 H) rfl rfl (Nat.le_of_ble_eq_true rfl) fun r022 wI22 => ?_))
          refine cl [0, 1, 2] [0, 1, 2] rfl rfl rfl ?_
          refine cs (cr [0, 1] rfl ?_)
          refine RunOps.cons rfl rfl rfl (opBox (cs := (eWash (gt v1.fWashes v19))) (Ce.agg (mv rfl)) fun b23 => ?_)
          refine cq rfl rfl rfl (opAssign (Ev.const _)) ?_
          refine rn (al [1, 2, 3] [0, 1, 2, 3] rfl rfl rfl (sq (cs (cr [0, 1, 2, 3, 4, 5, 6, 7, 8, 9, 10] rfl ?_))))
          refine cq rfl rfl rfl (opFieldP (fo86_0 H) (mv rfl)) ?_
          refine cq rfl rfl rfl (opLoad1 (tl3 H) ((Pt.box 3 (mv rfl) rfl rfl).take 1 (cs' := [(iv .i64 ((gt v1.fWashes v19).fFrom))]) rfl)) ?_
          refine cq rfl rfl rfl (opLoad1 (tl3 H) ((Pt.box 1 (mv rfl) rfl rfl).take 1 (cs' := [(iv .i64 v2)]) rfl)) ?_
          refine cq rfl rfl rfl (opEql (mv rfl) (mv rfl)) ?_
          refine cq rfl rfl rfl (opMove (mv rfl)) ?_
          refine cg rfl rfl rfl rfl rfl (fun g24 => opFieldP (fo86_1 H) (mv rfl)) ?_
          refine cg rfl rfl rfl rfl rfl (fun g25 => opLoad1 (tl3 H) ((Pt.box 3 (Ev.cnd (mv rfl) g25) rfl rfl).take 1 (cs' := [(iv .i64 ((gt v1.fWashes v19).fTo))]) rfl)) ?_
          refine cg rfl rfl rfl rfl rfl (fun g26 => opLoad1 (tl3 H) ((Pt.box 2 (mv rfl) rfl rfl).take 1 (cs' := [(iv .i64 v3)]) rfl)) ?_
          refine cg rfl rfl rfl rfl rfl (fun g27 => opEql (Ev.cnd (mv rfl) g27) (Ev.cnd (mv rfl) g27)) ?_
          refine cq rfl rfl rfl (opAnd (mv rfl) (fun g28 => (Ev.cnd (mv rfl) g28)) (Ev.const _)) ?_
          refine cq rfl rfl rfl (opAssign (mv rfl)) ?_
          refine rn (al [4] [0, 1, 2] rfl rfl rfl (sq ?_))
          refine CodeT.ret ?_
          refine AtX.ret' (bv (((gt v1.fWashes v19).fFrom == v2) && ((gt v1.fWashes v19).fTo == v3))) (ResOK.one Try.results32 rfl) [0, 1, 2] [(box b4 27 (eFleet v1)), (box b5 3 [(iv .i64 v2)]), (box b6 3 [(iv .i64 v3)])] (ol rfl) rfl ?_
          refine rn (al [0, 1, 5, 7, 8, 16] [0, 1, 2] rfl rfl rfl (sq ?_))
          refine CodeT.cond (((gt v1.fWashes v19).fFrom == v2) && ((gt v1.fWashes v19).fTo == v3)) (evBool (mv rfl)) (fun c29 => ?_) (fun c29 => ?_)
          · rw [if_pos c29] at h
            refine cs (cr [0, 1] rfl ?_)
            refine cq rfl rfl rfl (opMove (mv rfl)) ?_
            refine cq rfl rfl rfl (opAssign (mv rfl)) ?_
            refine rn (al [4] [0, 1, 2] rfl rfl rfl (sq ?_))
            refine CodeT.ret ?_
            refine AtX.in_ret ?_
            refine AtX.then_ret ?_
            refine AtX.then_ret ?_
            refine AtX.in_ret ?_
            refine AtX.then_ret ?_
            refine AtX.ret' (iv .i64 v19) (ResOK.one Try.results31 rfl) [0, 1, 2] [(box b4 27 (eFleet v1)), (box b5 3 [(iv .i64 v2)]), (box b6 3 [(iv .i64 v3)])] (ol rfl) rfl ?_
            refine cq rfl rfl rfl (opAssign (mv rfl)) ?_
            refine rn (al [3, 9] [0] rfl rfl rfl (sq (cs (cs (cr [0, 1] rfl ?_)))))
            refine cq rfl rfl rfl (opMove (mv rfl)) ?_
            refine cq rfl rfl rfl (opLss (mv rfl) (Ev.const _)) ?_
            refine rn (al [3, 9, 28] [0] rfl rfl rfl (sq ?_))
            refine CodeT.cond (decide (v19 < 0)) (evBool (mv rfl)) (fun c30 => ?_) (fun c30 => ?_)
            · rw [if_pos c30] at h
              refine cs (cr [0, 1] rfl ?_)
              refine cq rfl rfl rfl (opAssign (Ev.const _)) ?_
              refine cq rfl rfl rfl (opAssign (Ev.const _)) ?_
              refine rn (al [6, 7] [] rfl rfl rfl (sq ?_))
              refine CodeT.ret ?_
              refine AtX.then_ret ?_
              refine AtX.ret' (tupv [(iv .i64 0), (iv .i64 0)]) (ResOK.two Try.results14 rfl rfl) [] [] trivial rfl ?_
              obtain rfl := Option.some.inj h
              exact ⟨rfl, rfl⟩
            · rw [if_neg (bne_true c30)] at h
              refine CodeT.skip ?_
              refine al [3, 9] [0] rfl rfl rfl ?_
              refine sq (cs (cr [0, 1, 2, 3, 4, 5, 6, 7] rfl ?_))
              refine cq rfl rfl rfl (opFieldP (fo27_3 H) (mv rfl)) ?_
              refine cq rfl rfl rfl (opLoad1 (tl25 H) ((Pt.box 0 (mv rfl) rfl rfl).take 1 (cs' := [(ro eWash 3 v1.fWashes)]) rfl)) ?_
              refine cq rfl rfl rfl (opMove (mv rfl)) ?_
              refine ckE h fun h31 h => ?_
              refine cq rfl rfl rfl (opIndexR (e := eWash) (y := (gt v1.fWashes v19)) (ix25 H) (mv rfl) (mv rfl) (h31).1 (gt_some h31)) ?_
              refine cq rfl rfl rfl (opFieldRT (fo86_2 H) (mv rfl) (cs' := [(iv .i64 ((gt v1.fWashes v19).fMinutes))]) 1 rfl) ?_
              refine cq rfl rfl rfl (opLoad1 (tl3 H) (Pt.rop (mv rfl))) ?_
              refine cq rfl rfl rfl (opAssign (mv rfl)) ?_
              refine cq rfl rfl rfl (opAssign (Ev.const _)) ?_
              refine rn (al [6, 7] [] rfl rfl rfl (sq ?_))
              refine CodeT.ret ?_
              refine AtX.ret' (tupv [(iv .i64 ((gt v1.fWashes v19).fMinutes)), (iv .i64 0)]) (ResOK.two Try.results14 rfl rfl) [] [] trivial rfl ?_
              obtain rfl := Option.some.inj h
              exact ⟨rfl, rfl⟩
          · rw [if_neg (bne_true c29)] at h
            refine CodeT.skip ?_
            refine AtX.in_normal ?_
            refine al [0, 1, 7, 8] [0, 1, 2] rfl rfl rfl ?_
            refine sq (cr [0, 1] rfl ?_)
            refine cq rfl rfl rfl (opAdd (mv rfl) (Ev.const _)) ?_
            refine cq rfl rfl rfl (opMove (mv rfl)) ?_
            refine rn ?_
            exact AtX.to (ih20 (W (v19 + 1)) h) [0, 1, 2] (sl rfl) (ol rfl) rfl
        · rw [if_neg (bne_true c21)] at h
          refine CodeT.exit ?_
          refine AtX.then_exit ?_
          refine AtX.then_exit ?_
          refine AtX.in_hit ?_
          exact AtX.to (hJ16 () h) [0, 1, 2] trivial (ol rfl) rfl
theorem ref09_Clean_ok {P : Program} (H : P = Try.prog) (φ : Nat) (v1 : Fleet) (v2 : Int) (v3 : Int) (r : (Int × Int)) (h : ref09_Clean φ v1 v2 v3 = some r) : PureT P 15 [(agg (eFleet v1)), (iv .i64 v2), (iv .i64 v3)] (fun x news => x = tupv [(iv .i64 r.1), (iv .i64 r.2)] ∧ news = []) := by
  unfold ref09_Clean at h
  refine PureT.of_code' 54 (fn15 H) rfl rfl (Nat.le_of_ble_eq_true rfl) fun w0 base r0 wI => ?_
  refine cl [0, 1, 2] [] rfl rfl rfl ?_
  refine cs (cr [0, 1, 2] rfl ?_)
  refine RunOps.cons rfl rfl rfl (opBox (cs := (eFleet v1)) (Ce.agg (mv rfl)) fun b4 => ?_)
  refine cq rfl rfl rfl (opAssign (Ev.const _)) ?_
  refine cq rfl rfl rfl (opAssign (Ev.const _)) ?_
  refine rn (al [1, 2, 3] [0] rfl rfl rfl (sq (cs (cr [0, 1, 2] rfl ?_))))
  refine RunOps.cons_q (agg (eFleet v1)) rfl rfl rfl (opLoadN (tl27 H) ((Pt.box 0 (mv rfl) rfl rfl).take 4 (cs' := (eFleet v1)) rfl)) ?_
  refine bindE h fun y5 ey5 h => ?_
  refine cq rfl rfl rfl (opCallQ (fnok19 H) (args := [(agg (eFleet v1))]) ⟨EvF.of (mv rfl) FEnt.refl, trivial⟩ (ref09_Check_ok H φ v1 _ ey5) flat_eqv) ?_
  refine cq rfl rfl rfl (opAssign (mv rfl)) ?_
  refine rn (al [1, 2, 3, 8] [0] rfl rfl rfl (sq (cs (cs (cr [0, 1] rfl ?_)))))
  refine cq rfl rfl rfl (opMove (mv rfl)) ?_
  refine cq rfl rfl rfl (opNeq (mv rfl) (Ev.const _)) ?_
  refine rn (al [1, 2, 3, 8, 13] [0] rfl rfl rfl (sq ?_))
  refine CodeT.cond (y5 != 0) (evBool (mv rfl)) (fun c6 => ?_) (fun c6 => ?_)
  · rw [if_pos c6] at h
    refine cs (cr [0, 1, 2] rfl ?_)
    refine cq rfl rfl rfl (opMove (mv rfl)) ?_
    refine cq rfl rfl rfl (opAssign (Ev.const _)) ?_
    refine cq rfl rfl rfl (opAssign (mv rfl)) ?_
    refine rn (al [6, 7] [] rfl rfl rfl (sq ?_))
    refine CodeT.ret ?_
    refine AtX.then_ret ?_
    refine AtX.ret' (tupv [(iv .i64 0), (iv .i64 y5)]) (ResOK.two Try.results15 rfl rfl) [] [] trivial rfl ?_
    obtain rfl := Option.some.inj h
    exact ⟨rfl, rfl⟩
  · rw [if_neg (bne_true c6)] at h
    refine CodeT.skip ?_
    refine al [1, 2, 3] [0] rfl rfl rfl ?_
    refine sq (cs (cs (cr [0, 1, 2, 3, 4, 5, 6, 7] rfl ?_)))
    refine cq rfl rfl rfl (opMove (mv rfl)) ?_
    refine bindE h fun y7 ey7 h => ?_
    refine cq rfl rfl rfl (opCallQ (fnok30 H) (args := [(iv .i64 v2), (iv .i64 0), (iv .i64 63)]) ⟨EvF.of (mv rfl) FEnt.refl, EvF.of (Ev.const _) FEnt.refl, EvF.of (Ev.const _) FEnt.refl, trivial⟩ (ref09_within_ok H φ v2 0 63 _ ey7) flat_eqv) ?_
    refine cq rfl rfl rfl (opNot (mv rfl)) ?_
    refine cq rfl rfl rfl (opMove (mv rfl)) ?_
    refine cg rfl rfl rfl rfl rfl (fun g8 => opMove (mv rfl)) ?_
    refine bindE h fun y10 ey10 h => ?_
    refine cg rfl rfl rfl rfl rfl (fun g9 => opCallQ (fnok30 H) (args := [(iv .i64 v3), (iv .i64 0), (iv .i64 63)]) ⟨EvF.of (Ev.cnd (mv rfl) g9) FEnt.refl, EvF.of (Ev.const _) FEnt.refl, EvF.of (Ev.const _) FEnt.refl, trivial⟩ (ref09_within_ok H φ v3 0 63 _ (gcall_pos ey10 g9)) flat_eqv) ?_
    refine cg rfl rfl rfl rfl rfl (fun g11 => opNot (Ev.cnd (mv rfl) g11)) ?_
    refine cq rfl rfl rfl (opOr (mv rfl) (Ev.const _) (fun g12 => (Ev.cnd (mv rfl) g12))) ?_
    refine rn (al [1, 2, 3, 22] [0] rfl rfl rfl (sq ?_))
    refine CodeT.cond ((!y7) || (!y10)) (evBool (mv rfl)) (fun c13 => ?_) (fun c13 => ?_)
    · rw [if_pos c13] at h
      refine cs (cr [0, 1] rfl ?_)
      refine cq rfl rfl rfl (opAssign (Ev.const _)) ?_
      refine cq rfl rfl rfl (opAssign (Ev.const _)) ?_
      refine rn (al [6, 7] [] rfl rfl rfl (sq ?_))
      refine CodeT.ret ?_
      refine AtX.then_ret ?_
      refine AtX.ret' (tupv [(iv .i64 0), (iv .i64 1)]) (ResOK.two Try.results15 rfl rfl) [] [] trivial rfl ?_
      obtain rfl := Option.some.inj h
      exact ⟨rfl, rfl⟩
    · rw [if_neg (bne_true c13)] at h
      refine CodeT.skip ?_
      refine al [1, 2, 3] [0] rfl rfl rfl ?_
      refine sq (cs (cs (cr [0] rfl ?_)))
      refine cq rfl rfl rfl (opAssign (Ev.const _)) ?_
      refine rn (al [1, 2, 3, 9] [0] rfl rfl rfl (sq ?_))
      refine CodeT.join (fun z : Unit => (ref09_Clean_j14 φ)) r (fun z => ⟨Slots.of [], []⟩) (fun z h => ?_) (fun hJ14 => ?_)
      · replace h : (ref09_Clean_j14 φ) = some r := h
        unfold ref09_Clean_j14 at h
        refine al [] [] rfl rfl rfl ?_
        refine sq (cs (cr [0, 1] rfl ?_))
        refine cq rfl rfl rfl (opAssign (Ev.const _)) ?_
        refine cq rfl rfl rfl (opAssign (Ev.const _)) ?_
        refine rn (al [6, 7] [] rfl rfl rfl (sq ?_))
        refine CodeT.ret ?_
        refine AtX.ret' (tupv [(iv .i64 0), (iv .i64 0)]) (ResOK.two Try.results15 rfl rfl) [] [] trivial rfl ?_
        obtain rfl := Option.some.inj h
        exact ⟨rfl, rfl⟩
      · refine CodeT.block ?_
        refine CodeT.to (CodeT.loop (fun n (z : Int) => ref09_Clean_L16 φ v1 v2 v3 (ref09_Clean_j14 φ) n z) r (fun z => ⟨Slots.of [(1, (iv .i64 v2)), (2, (iv .i64 v3)), (3, (eqv (.pointer (some ⟨b4, 0, none⟩)))), (9, (iv .i64 z))], [(box b4 27 (eFleet v1))]⟩) (fun z => rfl) (fun n16 v15 ih16 h => ?_) φ 0 h) [0] (sl rfl) (ol rfl) rfl
        replace h : ref09_Clean_L16 φ v1 v2 v3 (ref09_Clean_j14 φ) (n16 + 1) v15 = some r := h
        rw [ref09_Clean_L16] at h
        refine cs (cs (cr [0, 1, 2, 3, 4] rfl ?_))
        refine cq rfl rfl rfl (opMove (mv rfl)) ?_
        refine cq rfl rfl rfl (opFieldP (fo27_3 H) (mv rfl)) ?_
        refine cq rfl rfl rfl (opLoad1 (tl25 H) ((Pt.box 0 (mv rfl) rfl rfl).take 1 (cs' := [(ro eWash 3 v1.fWashes)]) rfl)) ?_
        refine cq rfl rfl rfl (opLenR (il25 H) (mv rfl)) ?_
        refine cq rfl rfl rfl (opLss (mv rfl) (mv rfl)) ?_
        refine rn (al [1, 2, 3, 9, 27] [0] rfl rfl rfl (sq ?_))
        refine CodeT.cond (decide (v15 < (v1.fWashes.length : Int))) (evBool (mv rfl)) (fun c17 => ?_) (fun c17 => ?_)
        · rw [if_pos c17] at h
          refine CodeT.skip ?_
          refine al [1, 2, 3, 9] [0] rfl rfl rfl ?_
          refine sq (cs ?_)
          refine CodeT.block ?_
          refine cs (cr [0, 1, 2, 3, 4, 5, 6, 7, 8, 9, 10, 11, 12, 13, 14, 15, 16, 17] rfl ?_)
          refine cq rfl rfl rfl (opFieldP (fo27_3 H) (mv rfl)) ?_
          refine cq rfl rfl rfl (opLoad1 (tl25 H) ((Pt.box 0 (mv rfl) rfl rfl).take 1 (cs' := [(ro eWash 3 v1.fWashes)]) rfl)) ?_
          refine cq rfl rfl rfl (opMove (mv rfl)) ?_
          refine ckE h fun h18 h => ?_
          refine cq rfl rfl rfl (opIndexR (e := eWash) (y := (gt v1.fWashes v15)) (ix25 H) (mv rfl) (mv rfl) (h18).1 (gt_some h18)) ?_
          refine cq rfl rfl rfl (opFieldRT (fo86_0 H) (mv rfl) (cs' := [(iv .i64 ((gt v1.fWashes v15).fFrom))]) 1 rfl) ?_
          refine cq rfl rfl rfl (opLoad1 (tl3 H) (Pt.rop (mv rfl))) ?_
          refine cq rfl rfl rfl (opMove (mv rfl)) ?_
          refine cq rfl rfl rfl (opEql (mv rfl) (mv rfl)) ?_
          refine cq rfl rfl rfl (opMove (mv rfl)) ?_
          refine cg rfl rfl rfl rfl rfl (fun g19 => opFieldP (fo27_3 H) (mv rfl)) ?_
          refine cg rfl rfl rfl rfl rfl (fun g20 => opLoad1 (tl25 H) ((Pt.box 0 (Ev.cnd (mv rfl) g20) rfl rfl).take 1 (cs' := [(ro eWash 3 v1.fWashes)]) rfl)) ?_
          refine cg rfl rfl rfl rfl rfl (fun g21 => opMove (mv rfl)) ?_
          refine cg rfl rfl rfl rfl rfl (fun g22 => opIndexR (e := eWash) (y := (gt v1.fWashes v15)) (ix25 H) (Ev.cnd (mv rfl) g22) (Ev.cnd (mv rfl) g22) (h18).1 (gt_some h18)) ?_
          refine cg rfl rfl rfl rfl rfl (fun g23 => opFieldRT (fo86_1 H) (Ev.cnd (mv rfl) g23) (cs' := [(iv .i64 ((gt v1.fWashes v15).fTo))]) 1 rfl) ?_
          refine cg rfl rfl rfl rfl rfl (fun g24 => opLoad1 (tl3 H) (Pt.rop (Ev.cnd (mv rfl) g24))) ?_
          refine cg rfl rfl rfl rfl rfl (fun g25 => opMove (mv rfl)) ?_
          refine cg rfl rfl rfl rfl rfl (fun g26 => opEql (Ev.cnd (mv rfl) g26) (Ev.cnd (mv rfl) g26)) ?_
          refine cq rfl rfl rfl (opAnd (mv rfl) (fun g27 => (Ev.cnd (mv rfl) g27)) (Ev.const _)) ?_
          refine rn (al [1, 2, 3, 9, 47] [0] rfl rfl rfl (sq ?_))
          refine CodeT.cond (((gt v1.fWashes v15).fFrom == v2) && ((gt v1.fWashes v15).fTo == v3)) (evBool (mv rfl)) (fun c28 => ?_) (fun c28 => ?_)
          · rw [if_pos c28] at h
            refine cs (cr [0, 1, 2, 3, 4, 5, 6, 7] rfl ?_)
            refine cq rfl rfl rfl (opFieldP (fo27_3 H) (mv rfl)) ?_
            refine cq rfl rfl rfl (opLoad1 (tl25 H) ((Pt.box 0 (mv rfl) rfl rfl).take 1 (cs' := [(ro eWash 3 v1.fWashes)]) rfl)) ?_
            refine cq rfl rfl rfl (opMove (mv rfl)) ?_
            refine cq rfl rfl rfl (opIndexR (e := eWash) (y := (gt v1.fWashes v15)) (ix25 H) (mv rfl) (mv rfl) (h18).1 (gt_some h18)) ?_
            refine cq rfl rfl rfl (opFieldRT (fo86_2 H) (mv rfl) (cs' := [(iv .i64 ((gt v1.fWashes v15).fMinutes))]) 1 rfl) ?_
            refine cq rfl rfl rfl (opLoad1 (tl3 H) (Pt.rop (mv rfl))) ?_
            refine cq rfl rfl rfl (opAssign (mv rfl)) ?_
            refine cq rfl rfl rfl (opAssign (Ev.const _)) ?_
            refine rn (al [6, 7] [] rfl rfl rfl (sq ?_))
            refine CodeT.ret ?_
            refine AtX.in_ret ?_
            refine AtX.then_ret ?_
            refine AtX.then_ret ?_
            refine AtX.in_ret ?_
            refine AtX.then_ret ?_
            refine AtX.ret' (tupv [(iv .i64 ((gt v1.fWashes v15).fMinutes)), (iv .i64 0)]) (ResOK.two Try.results15 rfl rfl) [] [] trivial rfl ?_
            obtain rfl := Option.some.inj h
            exact ⟨rfl, rfl⟩
          · rw [if_neg (bne_true c28)] at h
            refine CodeT.skip ?_
            refine AtX.in_normal ?_
            refine al [1, 2, 3, 9] [0] rfl rfl rfl ?_
            refine sq (cr [0, 1, 2] rfl ?_)
            refine cq rfl rfl rfl (opMove (mv rfl)) ?_
            refine cq rfl rfl rfl (opAdd (mv rfl) (Ev.const _)) ?_
            refine cq rfl rfl rfl (opAssign (mv rfl)) ?_
            refine rn ?_
            exact AtX.to (ih16 (W (v15 + 1)) h) [0] (sl rfl) (ol rfl) rfl
        · rw [if_neg (bne_true c17)] at h
          refine CodeT.exit ?_
          refine AtX.then_exit ?_
          refine AtX.then_exit ?_
          refine AtX.in_hit ?_
          exact AtX.to (hJ14 () h) [] trivial trivial rfl
theorem fleet_Worth_ok {P : Program} (H : P = Try.prog) (φ : Nat) (v1 : Fleet) (v2 : Int) (v3 : Int) (r : (Int × Int)) (h : fleet_Worth φ v1 v2 v3 = some r) : PureT P 16 [(agg (eFleet v1)), (iv .i64 v2), (iv .i64 v3)] (fun x news => x = tupv [(iv .i64 r.1), (iv .i64 r.2)] ∧ news = []) := by
  unfold fleet_Worth at h
  refine PureT.of_code' 36 (fn16 H) rfl rfl (Nat.le_of_ble_eq_true rfl) fun w0 base r0 wI => ?_
  refine cl [0, 1, 2] [] rfl rfl rfl ?_
  refine cs (cr [0, 1, 2] rfl ?_)
  refine RunOps.cons rfl rfl rfl (opBox (cs := (eFleet v1)) (Ce.agg (mv rfl)) fun b4 => ?_)
  refine cq rfl rfl rfl (opAssign (Ev.const _)) ?_
  refine cq rfl rfl rfl (opAssign (Ev.const _)) ?_
  refine rn (al [1, 2, 3] [0] rfl rfl rfl (sq (cs (cr [0, 1, 2, 3, 4, 5, 6, 7, 8, 9, 10, 11] rfl ?_))))
  refine RunOps.cons_q (agg (eFleet v1)) rfl rfl rfl (opLoadN (tl27 H) ((Pt.box 0 (mv rfl) rfl rfl).take 4 (cs' := (eFleet v1)) rfl)) ?_
  refine cq rfl rfl rfl (opMove (mv rfl)) ?_
  refine bindE h fun y5 ey5 h => ?_
  refine cq rfl rfl rfl (opCallQ (fnok33 H) (args := [(agg (eFleet v1)), (iv .i64 v2)]) ⟨EvF.of (mv rfl) FEnt.refl, EvF.of (mv rfl) FEnt.refl, trivial⟩ (fleet_wagonOf_ok H φ v1 v2 _ ey5) (flat_tup' ⟨(flat_agg' (fWagon _)), (flat_agg' (fWagonType _)), flat_eqv, trivial⟩)) ?_
  refine cq rfl rfl rfl (opMove (mv rfl)) ?_
  refine cq rfl rfl rfl (opExtract (mv rfl) rfl) ?_
  refine cq rfl rfl rfl (opExtract (mv rfl) rfl) ?_
  refine cq rfl rfl rfl (opExtract (mv rfl) rfl) ?_
  refine RunOps.cons rfl rfl rfl (opAlloc [.int .i64 0, .int .i64 0, .int .i64 0, .int .i64 0, .int .i64 0] (ze47 H) rfl fun b6 => ?_)
  refine RunOps.cons rfl rfl rfl (opAlloc [.int .i64 0, .int .i64 0, .int .i64 0, .int .i64 0, .int .i64 0, .int .u64 0, .int .i64 0, .int .i64 0] (ze50 H) rfl fun b7 => ?_)
  refine RunOps.cons rfl rfl rfl (opStore 1 (cells := [(iv .i64 0), (iv .i64 0), (iv .i64 0), (iv .i64 0), (iv .i64 0)]) (cs := (eWagon y5.1)) (out := (eWagon y5.1)) (tl47 H) (mv rfl) (Ce.agg (mv rfl)) rfl rfl (Nat.le_of_ble_eq_true rfl) rfl ?_)
  refine RunOps.cons rfl rfl rfl (opStore 2 (cells := [(iv .i64 0), (iv .i64 0), (iv .i64 0), (iv .i64 0), (iv .i64 0), (iv .u64 0), (iv .i64 0), (iv .i64 0)]) (cs := (eWagonType y5.2.1)) (out := (eWagonType y5.2.1)) (tl50 H) (mv rfl) (Ce.agg (mv rfl)) rfl rfl (Nat.le_of_ble_eq_true rfl) rfl ?_)
  refine cq rfl rfl rfl (opAssign (mv rfl)) ?_
  refine rn (al [2, 8, 9, 10] [1, 2] rfl rfl rfl (sq (cs (cs (cr [0, 1] rfl ?_)))))
  refine cq rfl rfl rfl (opMove (mv rfl)) ?_
  refine cq rfl rfl rfl (opNeq (mv rfl) (Ev.const _)) ?_
  refine rn (al [2, 8, 9, 10, 19] [0, 1] rfl rfl rfl (sq ?_))
  refine CodeT.cond (y5.2.2 != 0) (evBool (mv rfl)) (fun c8 => ?_) (fun c8 => ?_)
  · rw [if_pos c8] at h
    refine cs (cr [0, 1, 2] rfl ?_)
    refine cq rfl rfl rfl (opMove (mv rfl)) ?_
    refine cq rfl rfl rfl (opAssign (Ev.const _)) ?_
    refine cq rfl rfl rfl (opAssign (mv rfl)) ?_
    refine rn (al [6, 7] [] rfl rfl rfl (sq ?_))
    refine CodeT.ret ?_
    refine AtX.then_ret ?_
    refine AtX.ret' (tupv [(iv .i64 0), (iv .i64 y5.2.2)]) (ResOK.two Try.results16 rfl rfl) [] [] trivial rfl ?_
    obtain rfl := Option.some.inj h
    exact ⟨rfl, rfl⟩
  · rw [if_neg (bne_true c8)] at h
    refine CodeT.skip ?_
    refine al [2, 8, 9] [0, 1] rfl rfl rfl ?_
    refine sq (cs (cs (cr [0, 1, 2] rfl ?_)))
    refine cq rfl rfl rfl (opMove (mv rfl)) ?_
    refine bindE h fun y9 ey9 h => ?_
    refine cq rfl rfl rfl (opCallQ (fnok29 H) (args := [(iv .i64 v3), (iv .i64 0), (iv .i64 1073741824)]) ⟨EvF.of (mv rfl) FEnt.refl, EvF.of (Ev.const _) FEnt.refl, EvF.of (Ev.const _) FEnt.refl, trivial⟩ (fleet_between_ok H φ v3 0 1073741824 _ ey9) flat_eqv) ?_
    refine cq rfl rfl rfl (opNot (mv rfl)) ?_
    refine rn (al [2, 8, 9, 23] [0, 1] rfl rfl rfl (sq ?_))
    refine CodeT.cond (!y9) (evBool (mv rfl)) (fun c10 => ?_) (fun c10 => ?_)
    · rw [if_pos c10] at h
      refine cs (cr [0, 1] rfl ?_)
      refine cq rfl rfl rfl (opAssign (Ev.const _)) ?_
      refine cq rfl rfl rfl (opAssign (Ev.const _)) ?_
      refine rn (al [6, 7] [] rfl rfl rfl (sq ?_))
      refine CodeT.ret ?_
      refine AtX.then_ret ?_
      refine AtX.ret' (tupv [(iv .i64 0), (iv .i64 1)]) (ResOK.two Try.results16 rfl rfl) [] [] trivial rfl ?_
      obtain rfl := Option.some.inj h
      exact ⟨rfl, rfl⟩
    · rw [if_neg (bne_true c10)] at h
      refine CodeT.skip ?_
      refine al [2, 8, 9] [0, 1] rfl rfl rfl ?_
      refine sq (cs (cr [0, 1, 2, 3, 4, 5, 6, 7, 8, 9, 10, 11, 12, 13] rfl ?_))
      refine cq rfl rfl rfl (opFieldP (fo47_4 H) (mv rfl)) ?_
      refine cq rfl rfl rfl (opLoad1 (tl3 H) ((Pt.box 0 (mv rfl) rfl rfl).take 1 (cs' := [(iv .i64 y5.1.fWorth)]) rfl)) ?_
      refine cq rfl rfl rfl (opFieldP (fo47_3 H) (mv rfl)) ?_
      refine cq rfl rfl rfl (opLoad1 (tl3 H) ((Pt.box 0 (mv rfl) rfl rfl).take 1 (cs' := [(iv .i64 y5.1.fBuilt)]) rfl)) ?_
      refine cq rfl rfl rfl (opMove (mv rfl)) ?_
      refine cq rfl rfl rfl (opFieldP (fo50_6 H) (mv rfl)) ?_
      refine cq rfl rfl rfl (opLoad1 (tl3 H) ((Pt.box 1 (mv rfl) rfl rfl).take 1 (cs' := [(iv .i64 y5.2.1.fLife)]) rfl)) ?_
      refine cq rfl rfl rfl (opFieldP (fo50_7 H) (mv rfl)) ?_
      refine cq rfl rfl rfl (opLoad1 (tl3 H) ((Pt.box 1 (mv rfl) rfl rfl).take 1 (cs' := [(iv .i64 y5.2.1.fFloor)]) rfl)) ?_
      refine bindE h fun y11 ey11 h => ?_
      refine cq rfl rfl rfl (opCallQ (fnok34 H) (args := [(iv .i64 y5.1.fWorth), (iv .i64 y5.1.fBuilt), (iv .i64 v3), (iv .i64 y5.2.1.fLife), (iv .i64 y5.2.1.fFloor)]) ⟨EvF.of (mv rfl) FEnt.refl, EvF.of (mv rfl) FEnt.refl, EvF.of (mv rfl) FEnt.refl, EvF.of (mv rfl) FEnt.refl, EvF.of (mv rfl) FEnt.refl, trivial⟩ (money_Worth_ok H φ y5.1.fWorth y5.1.fBuilt v3 y5.2.1.fLife y5.2.1.fFloor _ ey11) (flat_tup' ⟨flat_eqv, flat_eqv, trivial⟩)) ?_
      refine cq rfl rfl rfl (opExtract (mv rfl) rfl) ?_
      refine cq rfl rfl rfl (opExtract (mv rfl) rfl) ?_
      refine cq rfl rfl rfl (opAssign (mv rfl)) ?_
      refine cq rfl rfl rfl (opAssign (mv rfl)) ?_
      refine rn (al [6, 7] [] rfl rfl rfl (sq ?_))
      refine CodeT.ret ?_
      refine AtX.ret' (tupv [(iv .i64 y11.1), (iv .i64 y11.2)]) (ResOK.two Try.results16 rfl rfl) [] [] trivial rfl ?_
      obtain rfl := Option.some.inj h
      exact ⟨rfl, rfl⟩
theorem ref09_Worth_ok {P : Program} (H : P = Try.prog) (φ : Nat) (v1 : Fleet) (v2 : Int) (v3 : Int) (r : (Int × Int)) (h : ref09_Worth φ v1 v2 v3 = some r) : PureT P 17 [(agg (eFleet v1)), (iv .i64 v2), (iv .i64 v3)] (fun x news => x = tupv [(iv .i64 r.1), (iv .i64 r.2)] ∧ news = []) := by
  unfold ref09_Worth at h
  refine PureT.of_code' 52 (fn17 H) rfl rfl (Nat.le_of_ble_eq_true rfl) fun w0 base r0 wI => ?_
  refine cl [0, 1, 2] [] rfl rfl rfl ?_
  refine cs (cr [0, 1, 2] rfl ?_)
  refine RunOps.cons rfl rfl rfl (opBox (cs := (eFleet v1)) (Ce.agg (mv rfl)) fun b4 => ?_)
  refine cq rfl rfl rfl (opAssign (Ev.const _)) ?_
  refine cq rfl rfl rfl (opAssign (Ev.const _)) ?_
  refine rn (al [1, 2, 3] [0] rfl rfl rfl (sq (cs (cr [0, 1, 2] rfl ?_))))
  refine RunOps.cons_q (agg (eFleet v1)) rfl rfl rfl (opLoadN (tl27 H) ((Pt.box 0 (mv rfl) rfl rfl).take 4 (cs' := (eFleet v1)) rfl)) ?_
  refine bindE h fun y5 ey5 h => ?_
  refine cq rfl rfl rfl (opCallQ (fnok19 H) (args := [(agg (eFleet v1))]) ⟨EvF.of (mv rfl) FEnt.refl, trivial⟩ (ref09_Check_ok H φ v1 _ ey5) flat_eqv) ?_
  refine cq rfl rfl rfl (opAssign (mv rfl)) ?_
  refine rn (al [1, 2, 3, 8] [0] rfl rfl rfl (sq (cs (cs (cr [0, 1] rfl ?_)))))
  refine cq rfl rfl rfl (opMove (mv rfl)) ?_
  refine cq rfl rfl rfl (opNeq (mv rfl) (Ev.const _)) ?_
  refine rn (al [1, 2, 3, 8, 13] [0] rfl rfl rfl (sq ?_))
  refine CodeT.cond (y5 != 0) (evBool (mv rfl)) (fun c6 => ?_) (fun c6 => ?_)
  · rw [if_pos c6] at h
    refine cs (cr [0, 1, 2] rfl ?_)
    refine cq rfl rfl rfl (opMove (mv rfl)) ?_
    refine cq rfl rfl rfl (opAssign (Ev.const _)) ?_
    refine cq rfl rfl rfl (opAssign (mv rfl)) ?_
    refine rn (al [6, 7] [] rfl rfl rfl (sq ?_))
    refine CodeT.ret ?_
    refine AtX.then_ret ?_
    refine AtX.ret' (tupv [(iv .i64 0), (iv .i64 y5)]) (ResOK.two Try.results17 rfl rfl) [] [] trivial rfl ?_
    obtain rfl := Option.some.inj h
    exact ⟨rfl, rfl⟩
  · rw [if_neg (bne_true c6)] at h
    refine CodeT.skip ?_
    refine al [1, 2, 3] [0] rfl rfl rfl ?_
    refine sq (cs (cs (cr [0, 1, 2, 3, 4, 5, 6] rfl ?_)))
    refine cq rfl rfl rfl (opMove (mv rfl)) ?_
    refine cq rfl rfl rfl (opFieldP (fo27_1 H) (mv rfl)) ?_
    refine cq rfl rfl rfl (opLoad1 (tl23 H) ((Pt.box 0 (mv rfl) rfl rfl).take 1 (cs' := [(ro eWagon 5 v1.fWagons)]) rfl)) ?_
    refine cq rfl rfl rfl (opLenR (il23 H) (mv rfl)) ?_
    refine cq rfl rfl rfl (opSub (mv rfl) (Ev.const _)) ?_
    refine bindE h fun y7 ey7 h => ?_
    refine cq rfl rfl rfl (opCallQ (fnok30 H) (args := [(iv .i64 v2), (iv .i64 0), (iv .i64 (W ((v1.fWagons.length : Int) - 1)))]) ⟨EvF.of (mv rfl) FEnt.refl, EvF.of (Ev.const _) FEnt.refl, EvF.of (mv rfl) FEnt.refl, trivial⟩ (ref09_within_ok H φ v2 0 (W ((v1.fWagons.length : Int) - 1)) _ ey7) flat_eqv) ?_
    refine cq rfl rfl rfl (opNot (mv rfl)) ?_
    refine rn (al [1, 2, 3, 21] [0] rfl rfl rfl (sq ?_))
    refine CodeT.cond (!y7) (evBool (mv rfl)) (fun c8 => ?_) (fun c8 => ?_)
    · rw [if_pos c8] at h
      refine cs (cr [0, 1] rfl ?_)
      refine cq rfl rfl rfl (opAssign (Ev.const _)) ?_
      refine cq rfl rfl rfl (opAssign (Ev.const _)) ?_
      refine rn (al [6, 7] [] rfl rfl rfl (sq ?_))
      refine CodeT.ret ?_
      refine AtX.then_ret ?_
      refine AtX.ret' (tupv [(iv .i64 0), (iv .i64 90)]) (ResOK.two Try.results17 rfl rfl) [] [] trivial rfl ?_
      obtain rfl := Option.some.inj h
      exact ⟨rfl, rfl⟩
    · rw [if_neg (bne_true c8)] at h
      refine CodeT.skip ?_
      refine al [1, 2, 3] [0] rfl rfl rfl ?_
      refine sq (cs (cs (cr [0, 1, 2] rfl ?_)))
      refine cq rfl rfl rfl (opMove (mv rfl)) ?_
      refine bindE h fun y9 ey9 h => ?_
      refine cq rfl rfl rfl (opCallQ (fnok30 H) (args := [(iv .i64 v3), (iv .i64 0), (iv .i64 1073741824)]) ⟨EvF.of (mv rfl) FEnt.refl, EvF.of (Ev.const _) FEnt.refl, EvF.of (Ev.const _) FEnt.refl, trivial⟩ (ref09_within_ok H φ v3 0 1073741824 _ ey9) flat_eqv) ?_
      refine cq rfl rfl rfl (opNot (mv rfl)) ?_
      refine rn (al [1, 2, 3, 24] [0] rfl rfl rfl (sq ?_))
      refine CodeT.cond (!y9) (evBool (mv rfl)) (fun c10 => ?_) (fun c10 => ?_)
      · rw [if_pos c10] at h
        refine cs (cr [0, 1] rfl ?_)
        refine cq rfl rfl rfl (opAssign (Ev.const _)) ?_
        refine cq rfl rfl rfl (opAssign (Ev.const _)) ?_
        refine rn (al [6, 7] [] rfl rfl rfl (sq ?_))
        refine CodeT.ret ?_
        refine AtX.then_ret ?_
        refine AtX.ret' (tupv [(iv .i64 0), (iv .i64 1)]) (ResOK.two Try.results17 rfl rfl) [] [] trivial rfl ?_
        obtain rfl := Option.some.inj h
        exact ⟨rfl, rfl⟩
      · rw [if_neg (bne_true c10)] at h
        refine CodeT.skip ?_
        refine al [1, 2, 3] [0] rfl rfl rfl ?_
        refine sq (cs (cr [0, 1, 2, 3, 4, 5, 6] rfl ?_))
        refine cq rfl rfl rfl (opFieldP (fo27_1 H) (mv rfl)) ?_
        refine cq rfl rfl rfl (opLoad1 (tl23 H) ((Pt.box 0 (mv rfl) rfl rfl).take 1 (cs' := [(ro eWagon 5 v1.fWagons)]) rfl)) ?_
        refine cq rfl rfl rfl (opMove (mv rfl)) ?_
        refine ckE h fun h11 h => ?_
        refine cq rfl rfl rfl (opIndexR (e := eWagon) (y := (gt v1.fWagons v2)) (ix23 H) (mv rfl) (mv rfl) (h11).1 (gt_some h11)) ?_
        refine RunOps.cons_q (agg (eWagon (gt v1.fWagons v2))) rfl rfl rfl (opLoadN (tl47 H) (Pt.rop (mv rfl))) ?_
        refine RunOps.cons rfl rfl rfl (opAlloc [.int .i64 0, .int .i64 0, .int .i64 0, .int .i64 0, .int .i64 0] (ze47 H) rfl fun b12 => ?_)
        refine RunOps.cons rfl rfl rfl (opStore 1 (cells := [(iv .i64 0), (iv .i64 0), (iv .i64 0), (iv .i64 0), (iv .i64 0)]) (cs := (eWagon (gt v1.fWagons v2))) (out := (eWagon (gt v1.fWagons v2))) (tl47 H) (mv rfl) (Ce.agg (mv rfl)) rfl rfl (Nat.le_of_ble_eq_true rfl) rfl ?_)
        refine rn (al [2, 3, 9] [0, 1] rfl rfl rfl (sq (cs ?_)))
        refine ckE h fun h13 h => ?_
        refine bindE h fun y14 ey14 h => ?_
        refine CodeT.draw (QR := [(0, (eqv (.pointer (some ⟨b12, 4, none⟩)))), (1, (iv .i64 ((gt v1.fWagons v2).fWorth))), (2, (eqv (.pointer (some ⟨b12, 3, none⟩)))), (3, (iv .i64 ((gt v1.fWagons v2).fBuilt))), (4, (iv .i64 v3)), (5, (eqv (.pointer (some ⟨b4, 0, none⟩)))), (6, (ro eWagonType 8 v1.fTypes)), (7, (eqv (.pointer (some ⟨b12, 0, none⟩)))), (8, (iv .i64 ((gt v1.fWagons v2).fType))), (9, (rop (eWagonType (gt v1.fTypes ((gt v1.fWagons v2).fType))))), (10, (rop [(iv .i64 ((gt v1.fTypes ((gt v1.fWagons v2).fType)).fLife))])), (11, (iv .i64 ((gt v1.fTypes ((gt v1.fWagons v2).fType)).fLife))), (12, (eqv (.pointer (some ⟨b4, 0, none⟩)))), (13, (ro eWagonType 8 v1.fTypes)), (14, (eqv (.pointer (some ⟨b12, 0, none⟩)))), (15, (iv .i64 ((gt v1.fWagons v2).fType))), (16, (rop (eWagonType (gt v1.fTypes ((gt v1.fWagons v2).fType))))), (17, (rop [(iv .i64 ((gt v1.fTypes ((gt v1.fWagons v2).fType)).fFloor))])), (18, (iv .i64 ((gt v1.fTypes ((gt v1.fWagons v2).fType)).fFloor))), (19, (tupv [(iv .i64 y14.1), (iv .i64 y14.2)])), (20, (iv .i64 y14.1)), (21, (iv .i64 y14.2)), (22, (iv .i64 y14.1)), (23, (iv .i64 y14.2))]) (tab := [(some 30, []), (some 31, [0]), (some 32, []), (some 33, [2]), (some 34, []), (some 35, []), (some 36, [5]), (some 37, []), (some 38, [7]), (some 39, [6, 8]), (some 40, [9]), (some 41, [10]), (some 42, []), (some 43, [12]), (some 44, []), (some 45, [14]), (some 46, [13, 15]), (some 47, [16]), (some 48, [17]), (some 49, [1, 3, 4, 11, 18]), (some 50, [19]), (some 51, [19]), (some 6, [20, 19, 0, 1, 2, 3, 4, 5, 6, 7, 8, 9, 10, 11, 12, 13, 14, 15, 16, 17, 18, 19, 20, 21]), (some 7, [21, 22, 0, 1, 2, 3, 4, 5, 6, 7, 8, 9, 10, 11, 12, 13, 14, 15, 16, 17, 18, 19, 20, 21, 22])]) (mixed H) ?_
        refine Reg.intro [] [] (by kernel_rfl) rfl ⟨rfl, rfl, rfl, rfl, rfl, rfl, rfl, rfl, rfl, rfl, rfl, rfl, rfl, rfl, rfl, rfl, rfl, rfl, rfl, rfl, rfl, rfl, rfl, rfl, trivial⟩ ⟨(fun _ => ⟨_, rfl, (opFieldP (fo47_4 H) (mv rfl))⟩), (fun _ => ⟨_, rfl, (opLoad1 (tl3 H) ((Pt.box 1 (mv rfl) rfl rfl).take 1 (cs' := [(iv .i64 ((gt v1.fWagons v2).fWorth))]) rfl))⟩), (fun _ => ⟨_, rfl, (opFieldP (fo47_3 H) (mv rfl))⟩), (fun _ => ⟨_, rfl, (opLoad1 (tl3 H) ((Pt.box 1 (mv rfl) rfl rfl).take 1 (cs' := [(iv .i64 ((gt v1.fWagons v2).fBuilt))]) rfl))⟩), (fun _ => ⟨_, rfl, (opMove (mv rfl))⟩), (fun _ => ⟨_, rfl, (opFieldP (fo27_0 H) (mv rfl))⟩), (fun _ => ⟨_, rfl, (opLoad1 (tl22 H) ((Pt.box 0 (mv rfl) rfl rfl).take 1 (cs' := [(ro eWagonType 8 v1.fTypes)]) rfl))⟩), (fun _ => ⟨_, rfl, (opFieldP (fo47_0 H) (mv rfl))⟩), (fun _ => ⟨_, rfl, (opLoad1 (tl3 H) ((Pt.box 1 (mv rfl) rfl rfl).take 1 (cs' := [(iv .i64 ((gt v1.fWagons v2).fType))]) rfl))⟩), (fun _ => ⟨_, rfl, (opIndexR (e := eWagonType) (y := (gt v1.fTypes ((gt v1.fWagons v2).fType))) (ix22 H) (mv rfl) (mv rfl) (h13).1 (gt_some h13))⟩), (fun _ => ⟨_, rfl, (opFieldRT (fo50_6 H) (mv rfl) (cs' := [(iv .i64 ((gt v1.fTypes ((gt v1.fWagons v2).fType)).fLife))]) 1 rfl)⟩), (fun _ => ⟨_, rfl, (opLoad1 (tl3 H) (Pt.rop (mv rfl)))⟩), (fun _ => ⟨_, rfl, (opFieldP (fo27_0 H) (mv rfl))⟩), (fun _ => ⟨_, rfl, (opLoad1 (tl22 H) ((Pt.box 0 (mv rfl) rfl rfl).take 1 (cs' := [(ro eWagonType 8 v1.fTypes)]) rfl))⟩), (fun _ => ⟨_, rfl, (opFieldP (fo47_0 H) (mv rfl))⟩), (fun _ => ⟨_, rfl, (opLoad1 (tl3 H) ((Pt.box 1 (mv rfl) rfl rfl).take 1 (cs' := [(iv .i64 ((gt v1.fWagons v2).fType))]) rfl))⟩), (fun _ => ⟨_, rfl, (opIndexR (e := eWagonType) (y := (gt v1.fTypes ((gt v1.fWagons v2).fType))) (ix22 H) (mv rfl) (mv rfl) (h13).1 (gt_some h13))⟩), (fun _ => ⟨_, rfl, (opFieldRT (fo50_7 H) (mv rfl) (cs' := [(iv .i64 ((gt v1.fTypes ((gt v1.fWagons v2).fType)).fFloor))]) 1 rfl)⟩), (fun _ => ⟨_, rfl, (opLoad1 (tl3 H) (Pt.rop (mv rfl)))⟩), (fun _ => ⟨_, rfl, (opCallQ (fnok35 H) (args := [(iv .i64 ((gt v1.fWagons v2).fWorth)), (iv .i64 ((gt v1.fWagons v2).fBuilt)), (iv .i64 v3), (iv .i64 ((gt v1.fTypes ((gt v1.fWagons v2).fType)).fLife)), (iv .i64 ((gt v1.fTypes ((gt v1.fWagons v2).fType)).fFloor))]) ⟨EvF.of (mv rfl) FEnt.refl, EvF.of (mv rfl) FEnt.refl, EvF.of (mv rfl) FEnt.refl, EvF.of (mv rfl) FEnt.refl, EvF.of (mv rfl) FEnt.refl, trivial⟩ (ref07_Worth_ok H φ ((gt v1.fWagons v2).fWorth) ((gt v1.fWagons v2).fBuilt) v3 ((gt v1.fTypes ((gt v1.fWagons v2).fType)).fLife) ((gt v1.fTypes ((gt v1.fWagons v2).fType)).fFloor) _ ey14) (flat_tup' ⟨flat_eqv, flat_eqv, trivial⟩))⟩), (fun _ => ⟨_, rfl, (opExtract (mv rfl) rfl)⟩), (fun _ => ⟨_, rfl, (opExtract (mv rfl) rfl)⟩), (fun _ => ⟨_, rfl, (opAssign (mv rfl))⟩), (fun _ => ⟨_, rfl, (opAssign (mv rfl))⟩), trivial⟩ trivial (fun _ => ?_)
        refine al [6, 7] [] rfl rfl rfl ?_
        refine sq ?_
        refine CodeT.ret ?_
        refine AtX.ret' (tupv [(iv .i64 y14.1), (iv .i64 y14.2)]) (ResOK.two Try.results17 rfl rfl) [] [] trivial rfl ?_
        obtain rfl := Option.some.inj h
        exact ⟨rfl, rfl⟩
theorem ref09_SameSwaps_ok {P : Program} (H : P = Try.prog) (φ : Nat) (v1 : (List Swap)) (v2 : (List Swap)) (r : (Bool)) (h : ref09_SameSwaps φ v1 v2 = some r) : PureT P 22 [(ro eSwap 3 v1), (ro eSwap 3 v2)] (fun x news => x = (bv r) ∧ news = []) := by
  unfold ref09_SameSwaps at h
  refine PureT.of_code' 26 (fn22 H) rfl rfl (Nat.le_of_ble_eq_true rfl) fun w0 base r0 wI => ?_
  refine cl [0, 1] [] rfl rfl rfl ?_
  refine cs (cr [0] rfl ?_)
  refine cq rfl rfl rfl (opAssign (Ev.const _)) ?_
  refine rn (al [0, 1] [] rfl rfl rfl (sq (cs (cs (cr [0, 1, 2, 3, 4] rfl ?_)))))
  refine cq rfl rfl rfl (opMove (mv rfl)) ?_
  refine cq rfl rfl rfl (opLenR (il24 H) (mv rfl)) ?_
  refine cq rfl rfl rfl (opMove (mv rfl)) ?_
  refine cq rfl rfl rfl (opLenR (il24 H) (mv rfl)) ?_
  refine cq rfl rfl rfl (opNeq (mv rfl) (mv rfl)) ?_
  refine rn (al [0, 1, 10] [] rfl rfl rfl (sq ?_))
  refine CodeT.cond ((v1.length : Int) != (v2.length : Int)) (evBool (mv rfl)) (fun c3 => ?_) (fun c3 => ?_)
  · rw [if_pos c3] at h
    refine cs (cr [0] rfl ?_)
    refine cq rfl rfl rfl (opAssign (Ev.const _)) ?_
    refine rn (al [4] [] rfl rfl rfl (sq ?_))
    refine CodeT.ret ?_
    refine AtX.then_ret ?_
    refine AtX.ret' (bv false) (ResOK.one Try.results22 rfl) [] [] trivial rfl ?_
    obtain rfl := Option.some.inj h
    exact ⟨rfl, rfl⟩
  · rw [if_neg (bne_true c3)] at h
    refine CodeT.skip ?_
    refine al [0, 1] [] rfl rfl rfl ?_
    refine sq (cs (cs (cr [0] rfl ?_)))
    refine cq rfl rfl rfl (opAssign (Ev.const _)) ?_
    refine rn (al [0, 1, 5] [] rfl rfl rfl (sq ?_))
    refine CodeT.join (fun z : Unit => (ref09_SameSwaps_j4 φ)) r (fun z => ⟨Slots.of [], []⟩) (fun z h => ?_) (fun hJ4 => ?_)
    · replace h : (ref09_SameSwaps_j4 φ) = some r := h
      unfold ref09_SameSwaps_j4 at h
      refine al [] [] rfl rfl rfl ?_
      refine sq (cs (cr [0] rfl ?_))
      refine cq rfl rfl rfl (opAssign (Ev.const _)) ?_
      refine rn (al [4] [] rfl rfl rfl (sq ?_))
      refine CodeT.ret ?_
      refine AtX.ret' (bv true) (ResOK.one Try.results22 rfl) [] [] trivial rfl ?_
      obtain rfl := Option.some.inj h
      exact ⟨rfl, rfl⟩
    · refine CodeT.block ?_
      refine CodeT.to (CodeT.loop (fun n (z : Int) => ref09_SameSwaps_L6 φ v1 v2 (ref09_SameSwaps_j4 φ) n z) r (fun z => ⟨Slots.of [(0, (ro eSwap 3 v1)), (1, (ro eSwap 3 v2)), (5, (iv .i64 z))], []⟩) (fun z => rfl) (fun n6 v5 ih6 h => ?_) φ 0 h) [] (sl rfl) trivial rfl
      replace h : ref09_SameSwaps_L6 φ v1 v2 (ref09_SameSwaps_j4 φ) (n6 + 1) v5 = some r := h
      rw [ref09_SameSwaps_L6] at h
      refine cs (cs (cr [0, 1, 2, 3] rfl ?_))
      refine cq rfl rfl rfl (opMove (mv rfl)) ?_
      refine cq rfl rfl rfl (opMove (mv rfl)) ?_
      refine cq rfl rfl rfl (opLenR (il24 H) (mv rfl)) ?_
      refine cq rfl rfl rfl (opLss (mv rfl) (mv rfl)) ?_
      refine rn (al [0, 1, 5, 14] [] rfl rfl rfl (sq ?_))
      refine CodeT.cond (decide (v5 < (v1.length : Int))) (evBool (mv rfl)) (fun c7 => ?_) (fun c7 => ?_)
      · rw [if_pos c7] at h
        refine CodeT.skip ?_
        refine al [0, 1, 5] [] rfl rfl rfl ?_
        refine sq (cs ?_)
        refine CodeT.block ?_
        refine cs ?_
        refine ckE h fun h8 h => ?_
        refine ckE h fun h9 h => ?_
        refine CodeT.draw (QR := [(0, (ro eSwap 3 v1)), (1, (iv .i64 v5)), (2, (rop (eSwap (gt v1 v5)))), (3, (agg (eSwap (gt v1 v5)))), (4, (ro eSwap 3 v2)), (5, (iv .i64 v5)), (6, (rop (eSwap (gt v2 v5)))), (7, (agg (eSwap (gt v2 v5)))), (8, (bv (!(eqSwapB (gt v1 v5) (gt v2 v5)))))]) (tab := [(some 17, []), (some 18, []), (some 19, [0, 1]), (some 20, [2]), (some 21, []), (some 22, []), (some 23, [4, 5]), (some 24, [6]), (some 25, [3, 7])]) (mixed H) ?_
        refine Reg.intro [] [] (by kernel_rfl) rfl ⟨rfl, rfl, rfl, rfl, rfl, rfl, rfl, rfl, rfl, trivial⟩ ⟨(fun _ => ⟨_, rfl, (opMove (mv rfl))⟩), (fun _ => ⟨_, rfl, (opMove (mv rfl))⟩), (fun _ => ⟨_, rfl, (opIndexR (e := eSwap) (y := (gt v1 v5)) (ix24 H) (mv rfl) (mv rfl) (h8).1 (gt_some h8))⟩), (fun _ => ⟨_, rfl, (opLoadN (tl43 H) (Pt.rop (mv rfl)))⟩), (fun _ => ⟨_, rfl, (opMove (mv rfl))⟩), (fun _ => ⟨_, rfl, (opMove (mv rfl))⟩), (fun _ => ⟨_, rfl, (opIndexR (e := eSwap) (y := (gt v2 v5)) (ix24 H) (mv rfl) (mv rfl) (h9).1 (gt_some h9))⟩), (fun _ => ⟨_, rfl, (opLoadN (tl43 H) (Pt.rop (mv rfl)))⟩), (fun _ => ⟨_, rfl, (opNeS [(.int .i64 ((gt v1 v5).fWanted)), (.int .i64 ((gt v1 v5).fGiven)), (.int .i64 ((gt v1 v5).fCost))] [(.int .i64 ((gt v2 v5).fWanted)), (.int .i64 ((gt v2 v5).fGiven)), (.int .i64 ((gt v2 v5).fCost))] (mv rfl) (mv rfl) rfl rfl (eg43 H) (fun w => eqSwapR H w _ _))⟩), trivial⟩ trivial (fun _ => ?_)
        refine al [0, 1, 5, 25] [] rfl rfl rfl ?_
        refine sq ?_
        refine CodeT.cond (!(eqSwapB (gt v1 v5) (gt v2 v5))) (evBool (mv rfl)) (fun c10 => ?_) (fun c10 => ?_)
        · rw [if_pos c10] at h
          refine cs (cr [0] rfl ?_)
          refine cq rfl rfl rfl (opAssign (Ev.const _)) ?_
          refine rn (al [4] [] rfl rfl rfl (sq ?_))
          refine CodeT.ret ?_
          refine AtX.in_ret ?_
          refine AtX.then_ret ?_
          refine AtX.then_ret ?_
          refine AtX.in_ret ?_
          refine AtX.then_ret ?_
          refine AtX.ret' (bv false) (ResOK.one Try.results22 rfl) [] [] trivial rfl ?_
          obtain rfl := Option.some.inj h
          exact ⟨rfl, rfl⟩
        · rw [if_neg (bne_true c10)] at h
          refine CodeT.skip ?_
          refine AtX.in_normal ?_
          refine al [0, 1, 5] [] rfl rfl rfl ?_
          refine sq (cr [0, 1, 2] rfl ?_)
          refine cq rfl rfl rfl (opMove (mv rfl)) ?_
          refine cq rfl rfl rfl (opAdd (mv rfl) (Ev.const _)) ?_
          refine cq rfl rfl rfl (opAssign (mv rfl)) ?_
          refine rn ?_
          exact AtX.to (ih6 (W (v5 + 1)) h) [] (sl rfl) trivial rfl
      · rw [if_neg (bne_true c7)] at h
        refine CodeT.exit ?_
        refine AtX.then_exit ?_
        refine AtX.then_exit ?_
        refine AtX.in_hit ?_
        exact AtX.to (hJ4 () h) [] trivial trivial rfl
theorem fleet_CheckPool_ok {P : Program} (H : P = Try.prog) (φ : Nat) (v1 : Pool) (r : (Int)) (h : fleet_CheckPool φ v1 = some r) : PureT P 23 [(agg (ePool v1))] (fun x news => x = (iv .i64 r) ∧ news = []) := by
  unfold fleet_CheckPool at h
  refine PureT.of_code' 193 (fn23 H) rfl rfl (Nat.le_of_ble_eq_true rfl) fun w0 base r0 wI => ?_
  refine cl [0] [] rfl rfl rfl ?_
  refine cs (cr [0, 1] rfl ?_)
  refine RunOps.cons rfl rfl rfl (opBox (cs := (ePool v1)) (Ce.agg (mv rfl)) fun b2 => ?_)
  refine cq rfl rfl rfl (opAssign (Ev.const _)) ?_
  refine rn (al [1] [0] rfl rfl rfl (sq (cs (cs (cr [0, 1, 2, 3] rfl ?_)))))
  refine cq rfl rfl rfl (opFieldP (fo61_0 H) (mv rfl)) ?_
  refine RunOps.cons_q (agg (eNetwork v1.fNetwork)) rfl rfl rfl (opLoadN (tl56 H) ((Pt.box 0 (mv rfl) rfl rfl).take 2 (cs' := (eNetwork v1.fNetwork)) rfl)) ?_
  refine bindE h fun y3 ey3 h => ?_
  refine cq rfl rfl rfl (opCallQ (fnok25 H) (args := [(agg (eNetwork v1.fNetwork))]) ⟨EvF.of (mv rfl) FEnt.refl, trivial⟩ (network_Check_ok H φ v1.fNetwork _ ey3) flat_eqv) ?_
  refine cq rfl rfl rfl (opAssign (mv rfl)) ?_
  refine rn (al [1, 3] [0] rfl rfl rfl (sq (cs (cr [0, 1] rfl ?_))))
  refine cq rfl rfl rfl (opMove (mv rfl)) ?_
  refine cq rfl rfl rfl (opNeq (mv rfl) (Ev.const _)) ?_
  refine rn (al [1, 3, 24] [0] rfl rfl rfl (sq ?_))
  refine CodeT.cond (y3 != 0) (evBool (mv rfl)) (fun c4 => ?_) (fun c4 => ?_)
  · rw [if_pos c4] at h
    refine cs (cr [0, 1] rfl ?_)
    refine cq rfl rfl rfl (opMove (mv rfl)) ?_
    refine cq rfl rfl rfl (opAssign (mv rfl)) ?_
    refine rn (al [2] [] rfl rfl rfl (sq ?_))
    refine CodeT.ret ?_
    refine AtX.then_ret ?_
    refine AtX.ret' (iv .i64 y3) (ResOK.one Try.results23 rfl) [] [] trivial rfl ?_
    obtain rfl := Option.some.inj h
    exact ⟨rfl, rfl⟩
  · rw [if_neg (bne_true c4)] at h
    refine CodeT.skip ?_
    refine al [1] [0] rfl rfl rfl ?_
    refine sq (cs (cs (cr [0, 1, 2, 3] rfl ?_)))
    refine cq rfl rfl rfl (opFieldP (fo61_1 H) (mv rfl)) ?_
    refine RunOps.cons_q (agg (eFleet v1.fFleet)) rfl rfl rfl (opLoadN (tl27 H) ((Pt.box 0 (mv rfl) rfl rfl).take 4 (cs' := (eFleet v1.fFleet)) rfl)) ?_
    refine bindE h fun y5 ey5 h => ?_
    refine cq rfl rfl rfl (opCallQ (fnok18 H) (args := [(agg (eFleet v1.fFleet))]) ⟨EvF.of (mv rfl) FEnt.refl, trivial⟩ (fleet_Check_ok H φ v1.fFleet _ ey5) flat_eqv) ?_
    refine cq rfl rfl rfl (opAssign (mv rfl)) ?_
    refine rn (al [1, 4] [0] rfl rfl rfl (sq (cs (cr [0, 1] rfl ?_))))
    refine cq rfl rfl rfl (opMove (mv rfl)) ?_
    refine cq rfl rfl rfl (opNeq (mv rfl) (Ev.const _)) ?_
    refine rn (al [1, 4, 30] [0] rfl rfl rfl (sq ?_))
    refine CodeT.cond (y5 != 0) (evBool (mv rfl)) (fun c6 => ?_) (fun c6 => ?_)
    · rw [if_pos c6] at h
      refine cs (cr [0, 1] rfl ?_)
      refine cq rfl rfl rfl (opMove (mv rfl)) ?_
      refine cq rfl rfl rfl (opAssign (mv rfl)) ?_
      refine rn (al [2] [] rfl rfl rfl (sq ?_))
      refine CodeT.ret ?_
      refine AtX.then_ret ?_
      refine AtX.ret' (iv .i64 y5) (ResOK.one Try.results23 rfl) [] [] trivial rfl ?_
      obtain rfl := Option.some.inj h
      exact ⟨rfl, rfl⟩
    · rw [if_neg (bne_true c6)] at h
      refine CodeT.skip ?_
      refine al [1] [0] rfl rfl rfl ?_
      refine sq (cs (cs (cr [0, 1, 2, 3, 4, 5, 6, 7, 8, 9, 10, 11, 12, 13, 14, 15] rfl ?_)))
      refine cq rfl rfl rfl (opFieldP (fo61_2 H) (mv rfl)) ?_
      refine cq rfl rfl rfl (opLoad1 (tl57 H) ((Pt.box 0 (mv rfl) rfl rfl).take 1 (cs' := [(ro eReader 3 v1.fReaders)]) rfl)) ?_
      refine cq rfl rfl rfl (opLenR (il57 H) (mv rfl)) ?_
      refine cq rfl rfl rfl (opGtr (mv rfl) (Ev.const _)) ?_
      refine cq rfl rfl rfl (opMove (mv rfl)) ?_
      refine cg rfl rfl rfl rfl rfl (fun g7 => opFieldP (fo61_3 H) (mv rfl)) ?_
      refine cg rfl rfl rfl rfl rfl (fun g8 => opLoad1 (tl58 H) ((Pt.box 0 (Ev.cnd (mv rfl) g8) rfl rfl).take 1 (cs' := [(ro eShipper 1 v1.fShippers)]) rfl)) ?_
      refine cg rfl rfl rfl rfl rfl (fun g9 => opLenR (il58 H) (Ev.cnd (mv rfl) g9)) ?_
      refine cg rfl rfl rfl rfl rfl (fun g10 => opGtr (Ev.cnd (mv rfl) g10) (Ev.const _)) ?_
      refine cq rfl rfl rfl (opOr (mv rfl) (Ev.const _) (fun g11 => (Ev.cnd (mv rfl) g11))) ?_
      refine cq rfl rfl rfl (opMove (mv rfl)) ?_
      refine cg rfl rfl rfl rfl rfl (fun g12 => opFieldP (fo61_4 H) (mv rfl)) ?_
      refine cg rfl rfl rfl rfl rfl (fun g13 => opLoad1 (tl59 H) ((Pt.box 0 (Ev.cnd (mv rfl) g13) rfl rfl).take 1 (cs' := [(ro eRailwayInfo 16 v1.fRailways)]) rfl)) ?_
      refine cg rfl rfl rfl rfl rfl (fun g14 => opLenR (il59 H) (Ev.cnd (mv rfl) g14)) ?_
      refine cg rfl rfl rfl rfl rfl (fun g15 => opGtr (Ev.cnd (mv rfl) g15) (Ev.const _)) ?_
      refine cq rfl rfl rfl (opOr (mv rfl) (Ev.const _) (fun g16 => (Ev.cnd (mv rfl) g16))) ?_
      refine rn (al [1, 47] [0] rfl rfl rfl (sq ?_))
      refine CodeT.cond ((decide (256 < (v1.fReaders.length : Int)) || decide (256 < (v1.fShippers.length : Int))) || decide (16 < (v1.fRailways.length : Int))) (evBool (mv rfl)) (fun c17 => ?_) (fun c17 => ?_)
      · rw [if_pos c17] at h
        refine cs (cr [0] rfl ?_)
        refine cq rfl rfl rfl (opAssign (Ev.const _)) ?_
        refine rn (al [2] [] rfl rfl rfl (sq ?_))
        refine CodeT.ret ?_
        refine AtX.then_ret ?_
        refine AtX.ret' (iv .i64 2) (ResOK.one Try.results23 rfl) [] [] trivial rfl ?_
        obtain rfl := Option.some.inj h
        exact ⟨rfl, rfl⟩
      · rw [if_neg (bne_true c17)] at h
        refine CodeT.skip ?_
        refine al [1] [0] rfl rfl rfl ?_
        refine sq (cs ?_)
        refine CodeT.draw (QR := [(0, (eqv (.pointer (some ⟨b2, 0, none⟩)))), (1, (eqv (.pointer (some ⟨b2, 0, none⟩)))), (2, (ro ePlace 3 v1.fNetwork.fPlaces)), (3, (eqv (.pointer (some ⟨b2, 8, none⟩)))), (4, (ro eRailwayInfo 16 v1.fRailways)), (5, (iv .i64 (v1.fRailways.length : Int))), (6, (ro ePlace 3 v1.fNetwork.fPlaces)), (7, (iv .i64 (v1.fRailways.length : Int)))]) (tab := [(some 48, []), (some 49, [0]), (some 50, [1]), (some 51, []), (some 52, [3]), (some 53, [4]), (some 5, [2, 0, 1, 2]), (some 6, [5, 6, 0, 1, 2, 3, 4, 5, 6])]) (mixed H) ?_
        refine Reg.intro [] [] (by kernel_rfl) rfl ⟨rfl, rfl, rfl, rfl, rfl, rfl, rfl, rfl, trivial⟩ ⟨(fun _ => ⟨_, rfl, (opFieldP (fo61_0 H) (mv rfl))⟩), (fun _ => ⟨_, rfl, (opFieldP (fo56_0 H) (mv rfl))⟩), (fun _ => ⟨_, rfl, (opLoad1 (tl53 H) ((Pt.box 0 (mv rfl) rfl rfl).take 1 (cs' := [(ro ePlace 3 v1.fNetwork.fPlaces)]) rfl))⟩), (fun _ => ⟨_, rfl, (opFieldP (fo61_4 H) (mv rfl))⟩), (fun _ => ⟨_, rfl, (opLoad1 (tl59 H) ((Pt.box 0 (mv rfl) rfl rfl).take 1 (cs' := [(ro eRailwayInfo 16 v1.fRailways)]) rfl))⟩), (fun _ => ⟨_, rfl, (opLenR (il59 H) (mv rfl))⟩), (fun _ => ⟨_, rfl, (opAssign (mv rfl))⟩), (fun _ => ⟨_, rfl, (opAssign (mv rfl))⟩), trivial⟩ trivial (fun _ => ?_)
        refine al [1, 5, 6] [0] rfl rfl rfl ?_
        refine sq (cs (cr [0, 1, 2] rfl ?_))
        refine cq rfl rfl rfl (opMove (mv rfl)) ?_
        refine cq rfl rfl rfl (opEql (mv rfl) (Ev.const _)) ?_
        refine cq rfl rfl rfl (opAssign (mv rfl)) ?_
        refine rn (al [1, 5, 6, 7] [0] rfl rfl rfl (sq (cs (cs (cr [0, 1, 2, 3] rfl ?_)))))
        refine cq rfl rfl rfl (opFieldP (fo61_2 H) (mv rfl)) ?_
        refine cq rfl rfl rfl (opLoad1 (tl57 H) ((Pt.box 0 (mv rfl) rfl rfl).take 1 (cs' := [(ro eReader 3 v1.fReaders)]) rfl)) ?_
        refine cq rfl rfl rfl (opLenR (il57 H) (mv rfl)) ?_
        refine cq rfl rfl rfl (opMove (Ev.const _)) ?_
        refine rn (al [1, 5, 6, 7, 57, 58, 59] [0] rfl rfl rfl (sq ?_))
        refine CodeT.join (fun z : Bool => (fleet_CheckPool_j19 φ v1) z) r (fun z => ⟨Slots.of [(1, (eqv (.pointer (some ⟨b2, 0, none⟩)))), (5, (ro ePlace 3 v1.fNetwork.fPlaces)), (6, (iv .i64 (v1.fRailways.length : Int))), (7, (bv z))], [(box b2 61 (ePool v1))]⟩) (fun v18 h => ?_) (fun hJ19 => ?_)
        · replace h : (fleet_CheckPool_j19 φ v1) v18 = some r := h
          unfold fleet_CheckPool_j19 at h
          refine al [1, 5, 6, 7] [0] rfl rfl rfl ?_
          refine sq (cs (cs (cr [0, 1, 2, 3] rfl ?_)))
          refine cq rfl rfl rfl (opFieldP (fo61_3 H) (mv rfl)) ?_
          refine cq rfl rfl rfl (opLoad1 (tl58 H) ((Pt.box 0 (mv rfl) rfl rfl).take 1 (cs' := [(ro eShipper 1 v1.fShippers)]) rfl)) ?_
          refine cq rfl rfl rfl (opLenR (il58 H) (mv rfl)) ?_
          refine cq rfl rfl rfl (opMove (Ev.const _)) ?_
          refine rn (al [1, 5, 6, 7, 92, 93, 94] [0] rfl rfl rfl (sq ?_))
          refine CodeT.join (fun z : Bool => (fleet_CheckPool_j21 φ v1) z) r (fun z => ⟨Slots.of [(1, (eqv (.pointer (some ⟨b2, 0, none⟩)))), (5, (ro ePlace 3 v1.fNetwork.fPlaces)), (6, (iv .i64 (v1.fRailways.length : Int))), (7, (bv z))], [(box b2 61 (ePool v1))]⟩) (fun v20 h => ?_) (fun hJ21 => ?_)
          · replace h : (fleet_CheckPool_j21 φ v1) v20 = some r := h
            unfold fleet_CheckPool_j21 at h
            refine al [1, 5, 6, 7] [0] rfl rfl rfl ?_
            refine sq (cs (cs (cr [0, 1, 2, 3, 4] rfl ?_)))
            refine cq rfl rfl rfl (opFieldP (fo61_1 H) (mv rfl)) ?_
            refine cq rfl rfl rfl (opFieldP (fo27_1 H) (mv rfl)) ?_
            refine cq rfl rfl rfl (opLoad1 (tl23 H) ((Pt.box 0 (mv rfl) rfl rfl).take 1 (cs' := [(ro eWagon 5 v1.fFleet.fWagons)]) rfl)) ?_
            refine cq rfl rfl rfl (opLenR (il23 H) (mv rfl)) ?_
            refine cq rfl rfl rfl (opMove (Ev.const _)) ?_
            refine rn (al [1, 5, 6, 7, 120, 121, 122] [0] rfl rfl rfl (sq ?_))
            refine CodeT.join (fun z : Bool => (fleet_CheckPool_j23 φ v1) z) r (fun z => ⟨Slots.of [(1, (eqv (.pointer (some ⟨b2, 0, none⟩)))), (5, (ro ePlace 3 v1.fNetwork.fPlaces)), (6, (iv .i64 (v1.fRailways.length : Int))), (7, (bv z))], [(box b2 61 (ePool v1))]⟩) (fun v22 h => ?_) (fun hJ23 => ?_)
            · replace h : (fleet_CheckPool_j23 φ v1) v22 = some r := h
              unfold fleet_CheckPool_j23 at h
              refine al [1, 5, 6, 7] [0] rfl rfl rfl ?_
              refine sq (cs (cs (cr [0, 1, 2] rfl ?_)))
              refine cq rfl rfl rfl (opMove (mv rfl)) ?_
              refine cq rfl rfl rfl (opLenR (il53 H) (mv rfl)) ?_
              refine cq rfl rfl rfl (opMove (Ev.const _)) ?_
              refine rn (al [1, 6, 7, 135, 136, 137] [0] rfl rfl rfl (sq ?_))
              refine CodeT.join (fun z : Bool => (fleet_CheckPool_j25 φ v1) z) r (fun z => ⟨Slots.of [(1, (eqv (.pointer (some ⟨b2, 0, none⟩)))), (6, (iv .i64 (v1.fRailways.length : Int))), (7, (bv z))], [(box b2 61 (ePool v1))]⟩) (fun v24 h => ?_) (fun hJ25 => ?_)
              · replace h : (fleet_CheckPool_j25 φ v1) v24 = some r := h
                unfold fleet_CheckPool_j25 at h
                refine al [1, 6, 7] [0] rfl rfl rfl ?_
                refine sq (cs (cs (cr [0, 1, 2, 3, 4] rfl ?_)))
                refine cq rfl rfl rfl (opFieldP (fo61_0 H) (mv rfl)) ?_
                refine cq rfl rfl rfl (opFieldP (fo56_1 H) (mv rfl)) ?_
                refine cq rfl rfl rfl (opLoad1 (tl54 H) ((Pt.box 0 (mv rfl) rfl rfl).take 1 (cs' := [(ro eEdge 5 v1.fNetwork.fEdges)]) rfl)) ?_
                refine cq rfl rfl rfl (opLenR (il54 H) (mv rfl)) ?_
                refine cq rfl rfl rfl (opMove (Ev.const _)) ?_
                refine rn (al [1, 6, 7, 157, 158, 159] [0] rfl rfl rfl (sq ?_))
                refine CodeT.join (fun z : Bool => (fleet_CheckPool_j27 φ v1) z) r (fun z => ⟨Slots.of [(1, (eqv (.pointer (some ⟨b2, 0, none⟩)))), (7, (bv z))], [(box b2 61 (ePool v1))]⟩) (fun v26 h => ?_) (fun hJ27 => ?_)
                · replace h : (fleet_CheckPool_j27 φ v1) v26 = some r := h
                  unfold fleet_CheckPool_j27 at h
                  refine al [1, 7] [0] rfl rfl rfl ?_
                  refine sq (cs (cs (cr [0, 1, 2, 3] rfl ?_)))
                  refine cq rfl rfl rfl (opFieldP (fo61_4 H) (mv rfl)) ?_
                  refine cq rfl rfl rfl (opLoad1 (tl59 H) ((Pt.box 0 (mv rfl) rfl rfl).take 1 (cs' := [(ro eRailwayInfo 16 v1.fRailways)]) rfl)) ?_
                  refine cq rfl rfl rfl (opLenR (il59 H) (mv rfl)) ?_
                  refine cq rfl rfl rfl (opMove (Ev.const _)) ?_
                  refine rn (al [7, 172, 173, 174] [] rfl rfl rfl (sq ?_))
                  refine CodeT.join (fun z : Bool => (fleet_CheckPool_j29 φ) z) r (fun z => ⟨Slots.of [(7, (bv z))], []⟩) (fun v28 h => ?_) (fun hJ29 => ?_)
                  · replace h : (fleet_CheckPool_j29 φ) v28 = some r := h
                    unfold fleet_CheckPool_j29 at h
                    refine al [7] [] rfl rfl rfl ?_
                    refine sq (cs (cs (cr [0] rfl ?_)))
                    refine cq rfl rfl rfl (opMove (mv rfl)) ?_
                    refine rn (al [192] [] rfl rfl rfl (sq ?_))
                    refine CodeT.cond v28 (evBool (mv rfl)) (fun c30 => ?_) (fun c30 => ?_)
                    · rw [if_pos c30] at h
                      refine cs (cr [0] rfl ?_)
                      refine cq rfl rfl rfl (opAssign (Ev.const _)) ?_
                      refine rn (al [2] [] rfl rfl rfl (sq ?_))
                      refine CodeT.ret ?_
                      refine AtX.then_ret ?_
                      refine AtX.ret' (iv .i64 1) (ResOK.one Try.results23 rfl) [] [] trivial rfl ?_
                      obtain rfl := Option.some.inj h
                      exact ⟨rfl, rfl⟩
                    · rw [if_neg (bne_true c30)] at h
                      refine CodeT.skip ?_
                      refine al [] [] rfl rfl rfl ?_
                      refine sq (cs (cr [0] rfl ?_))
                      refine cq rfl rfl rfl (opAssign (Ev.const _)) ?_
                      refine rn (al [2] [] rfl rfl rfl (sq ?_))
                      refine CodeT.ret ?_
                      refine AtX.ret' (iv .i64 0) (ResOK.one Try.results23 rfl) [] [] trivial rfl ?_
                      obtain rfl := Option.some.inj h
                      exact ⟨rfl, rfl⟩
                  · refine CodeT.block ?_
                    refine CodeT.to (CodeT.loop (fun n (z : Bool × Int) => fleet_CheckPool_L33 φ v1 (fleet_CheckPool_j29 φ) n z.1 z.2) r (fun z => ⟨Slots.of [(7, (bv z.1)), (172, (ro eRailwayInfo 16 v1.fRailways)), (173, (iv .i64 (v1.fRailways.length : Int))), (174, (iv .i64 z.2))], []⟩) (fun z => rfl) (fun n33 z ih33 h => ?_) φ (v26, 0) h) [] (sl rfl) trivial rfl
                    obtain ⟨v31, v32⟩ := z
                    replace h : fleet_CheckPool_L33 φ v1 (fleet_CheckPool_j29 φ) (n33 + 1) v31 v32 = some r := h
                    rw [fleet_CheckPool_L33] at h
                    refine cs (cr [0] rfl ?_)
                    refine cq rfl rfl rfl (opLss (mv rfl) (mv rfl)) ?_
                    refine rn (al [7, 172, 173, 174, 175] [] rfl rfl rfl (sq (cs ?_)))
                    refine CodeT.cond (decide (v32 < (v1.fRailways.length : Int))) (evBool (mv rfl)) (fun c34 => ?_) (fun c34 => ?_)
                    · rw [if_pos c34] at h
                      refine CodeT.skip ?_
                      refine al [7, 172, 173, 174] [] rfl rfl rfl ?_
                      refine sq (cs ?_)
                      refine CodeT.block ?_
                      refine cs (cr [0, 1, 2, 3] rfl ?_)
                      refine ckE h fun h35 h => ?_
                      refine cq rfl rfl rfl (opIndexR (e := eRailwayInfo) (y := (gt v1.fRailways v32)) (ix59 H) (mv rfl) (mv rfl) (h35).1 (gt_some h35)) ?_
                      refine cq rfl rfl rfl (opLoadN' (tl68 H) (by simp [arr_len lSpan, eRailwayInfo]) (Pt.rop (mv rfl))) ?_
                      refine RunOps.cons rfl rfl rfl (opAlloc [.int .u64 0, .int .i64 0, .int .i64 0, .int .i64 0, .int .i64 0, .int .i64 0, .int .i64 0, .int .i64 0, .int .i64 0, .int .i64 0, .int .i64 0, .int .i64 0, .int .i64 0, .int .i64 0, .int .i64 0, .slice none 0 0] (ze68 H) rfl fun b36 => ?_)
                      refine RunOps.cons rfl rfl rfl (opStore 0 (cells := ([(iv .u64 0)] ++ arr 7 eSpan (fun _ => (Span.mk 0 0)) ++ [(eqv (.slice none 0 0))])) (cs := (eRailwayInfo (gt v1.fRailways v32))) (out := (eRailwayInfo (gt v1.fRailways v32))) (tl68 H) (mv rfl) (Ce.agg (mv rfl)) rfl rfl (Nat.le_of_ble_eq_true rfl) rfl ?_)
                      refine rn (al [7, 19, 172, 173, 174] [0] rfl rfl rfl (sq (cr [0, 1, 2, 3, 4, 5, 6, 7, 8, 9, 10, 11, 12, 13] rfl ?_)))
                      refine cq rfl rfl rfl (opMove (mv rfl)) ?_
                      refine cq rfl rfl rfl (opMove (mv rfl)) ?_
                      refine cg rfl rfl rfl rfl rfl (fun g37 => opFieldP (fo68_1 H) (mv rfl)) ?_
                      refine cg rfl rfl rfl rfl rfl (fun g38 => opLoadN' (tl66 H) (by simp [arr_len lSpan, eCalendar]) ((Pt.box 0 (Ev.cnd (mv rfl) g38) rfl rfl).take 15 (cs' := (eCalendar (gt v1.fRailways v32).fCalendar)) rfl)) ?_
                      refine bindE h fun y40 ey40 h => ?_
                      refine cg rfl rfl rfl rfl rfl (fun g39 => opCallQ (fnok27 H) (args := [(agg (eCalendar ((gt v1.fRailways v32).fCalendar)))]) ⟨EvF.of (Ev.cnd (mv rfl) g39) FEnt.refl, trivial⟩ (calendar_Check_ok H φ ((gt v1.fRailways v32).fCalendar) _ (gcall_pos ey40 g39)) flat_eqv) ?_
                      refine cg rfl rfl rfl rfl rfl (fun g41 => opNeq (Ev.cnd (mv rfl) g41) (Ev.const _)) ?_
                      refine cq rfl rfl rfl (opOr (mv rfl) (Ev.const _) (fun g42 => (Ev.cnd (mv rfl) g42))) ?_
                      refine cq rfl rfl rfl (opMove (mv rfl)) ?_
                      refine cg rfl rfl rfl rfl rfl (fun g43 => opFieldP (fo68_0 H) (mv rfl)) ?_
                      refine cg rfl rfl rfl rfl rfl (fun g44 => opLoad1 (tl48 H) ((Pt.box 0 (Ev.cnd (mv rfl) g44) rfl rfl).take 1 (cs' := [(iv .u64 ((gt v1.fRailways v32).fKey))]) rfl)) ?_
                      refine bindE h fun y46 ey46 h => ?_
                      refine cg rfl rfl rfl rfl rfl (fun g45 => opCallQ (fnok26 H) (args := [(iv .u64 ((gt v1.fRailways v32).fKey))]) ⟨EvF.of (Ev.cnd (mv rfl) g45) FEnt.refl, trivial⟩ (sign_Valid_ok H φ ((gt v1.fRailways v32).fKey) _ (gcall_pos ey46 g45)) flat_eqv) ?_
                      refine cg rfl rfl rfl rfl rfl (fun g47 => opNot (Ev.cnd (mv rfl) g47)) ?_
                      refine cq rfl rfl rfl (opOr (mv rfl) (Ev.const _) (fun g48 => (Ev.cnd (mv rfl) g48))) ?_
                      refine cq rfl rfl rfl (opAssign (mv rfl)) ?_
                      refine rn ?_
                      refine AtX.in_normal ?_
                      refine al [7, 172, 173, 174] [] rfl rfl rfl ?_
                      refine sq (cr [0, 1] rfl ?_)
                      refine cq rfl rfl rfl (opAdd (mv rfl) (Ev.const _)) ?_
                      refine cq rfl rfl rfl (opMove (mv rfl)) ?_
                      refine rn ?_
                      exact AtX.to (ih33 (((v31 || (y40 != 0)) || (!y46)), (W (v32 + 1))) h) [] (sl rfl) trivial rfl
                    · rw [if_neg (bne_true c34)] at h
                      refine CodeT.exit ?_
                      refine AtX.then_exit ?_
                      refine AtX.then_exit ?_
                      refine AtX.in_hit ?_
                      exact AtX.to (hJ29 v31 h) [] (sl rfl) trivial rfl
                · refine CodeT.block ?_
                  refine CodeT.to (CodeT.loop (fun n (z : Bool × Int) => fleet_CheckPool_L51 φ v1 (fleet_CheckPool_j27 φ v1) n z.1 z.2) r (fun z => ⟨Slots.of [(1, (eqv (.pointer (some ⟨b2, 0, none⟩)))), (6, (iv .i64 (v1.fRailways.length : Int))), (7, (bv z.1)), (157, (ro eEdge 5 v1.fNetwork.fEdges)), (158, (iv .i64 (v1.fNetwork.fEdges.length : Int))), (159, (iv .i64 z.2))], [(box b2 61 (ePool v1))]⟩) (fun z => rfl) (fun n51 z ih51 h => ?_) φ (v24, 0) h) [0] (sl rfl) (ol rfl) rfl
                  obtain ⟨v49, v50⟩ := z
                  replace h : fleet_CheckPool_L51 φ v1 (fleet_CheckPool_j27 φ v1) (n51 + 1) v49 v50 = some r := h
                  rw [fleet_CheckPool_L51] at h
                  refine cs (cr [0] rfl ?_)
                  refine cq rfl rfl rfl (opLss (mv rfl) (mv rfl)) ?_
                  refine rn (al [1, 6, 7, 157, 158, 159, 160] [0] rfl rfl rfl (sq (cs ?_)))
                  refine CodeT.cond (decide (v50 < (v1.fNetwork.fEdges.length : Int))) (evBool (mv rfl)) (fun c52 => ?_) (fun c52 => ?_)
                  · rw [if_pos c52] at h
                    refine CodeT.skip ?_
                    refine al [1, 6, 7, 157, 158, 159] [0] rfl rfl rfl ?_
                    refine sq (cs ?_)
                    refine CodeT.block ?_
                    refine cs (cr [0, 1, 2, 3] rfl ?_)
                    refine ckE h fun h53 h => ?_
                    refine cq rfl rfl rfl (opIndexR (e := eEdge) (y := (gt v1.fNetwork.fEdges v50)) (ix54 H) (mv rfl) (mv rfl) (h53).1 (gt_some h53)) ?_
                    refine RunOps.cons_q (agg (eEdge (gt v1.fNetwork.fEdges v50))) rfl rfl rfl (opLoadN (tl98 H) (Pt.rop (mv rfl))) ?_
                    refine RunOps.cons rfl rfl rfl (opAlloc [.int .i64 0, .int .i64 0, .int .i64 0, .int .i64 0, .int .i64 0] (ze98 H) rfl fun b54 => ?_)
                    refine RunOps.cons rfl rfl rfl (opStore 1 (cells := [(iv .i64 0), (iv .i64 0), (iv .i64 0), (iv .i64 0), (iv .i64 0)]) (cs := (eEdge (gt v1.fNetwork.fEdges v50))) (out := (eEdge (gt v1.fNetwork.fEdges v50))) (tl98 H) (mv rfl) (Ce.agg (mv rfl)) rfl rfl (Nat.le_of_ble_eq_true rfl) rfl ?_)
                    refine rn (al [1, 6, 7, 17, 157, 158, 159] [0, 1] rfl rfl rfl (sq (cr [0, 1, 2, 3, 4, 5, 6, 7] rfl ?_)))
                    refine cq rfl rfl rfl (opMove (mv rfl)) ?_
                    refine cq rfl rfl rfl (opMove (mv rfl)) ?_
                    refine cg rfl rfl rfl rfl rfl (fun g55 => opFieldP (fo98_2 H) (mv rfl)) ?_
                    refine cg rfl rfl rfl rfl rfl (fun g56 => opLoad1 (tl3 H) ((Pt.box 1 (Ev.cnd (mv rfl) g56) rfl rfl).take 1 (cs' := [(iv .i64 ((gt v1.fNetwork.fEdges v50).fRailway))]) rfl)) ?_
                    refine cg rfl rfl rfl rfl rfl (fun g57 => opMove (mv rfl)) ?_
                    refine cg rfl rfl rfl rfl rfl (fun g58 => opGeq (Ev.cnd (mv rfl) g58) (Ev.cnd (mv rfl) g58)) ?_
                    refine cq rfl rfl rfl (opOr (mv rfl) (Ev.const _) (fun g59 => (Ev.cnd (mv rfl) g59))) ?_
                    refine cq rfl rfl rfl (opAssign (mv rfl)) ?_
                    refine rn ?_
                    refine AtX.in_normal ?_
                    refine al [1, 6, 7, 157, 158, 159] [0] rfl rfl rfl ?_
                    refine sq (cr [0, 1] rfl ?_)
                    refine cq rfl rfl rfl (opAdd (mv rfl) (Ev.const _)) ?_
                    refine cq rfl rfl rfl (opMove (mv rfl)) ?_
                    refine rn ?_
                    exact AtX.to (ih51 ((v49 || decide ((v1.fRailways.length : Int) ≤ (gt v1.fNetwork.fEdges v50).fRailway)), (W (v50 + 1))) h) [0] (sl rfl) (ol rfl) rfl
                  · rw [if_neg (bne_true c52)] at h
                    refine CodeT.exit ?_
                    refine AtX.then_exit ?_
                    refine AtX.then_exit ?_
                    refine AtX.in_hit ?_
                    exact AtX.to (hJ27 v49 h) [0] (sl rfl) (ol rfl) rfl
              · refine CodeT.block ?_
                refine CodeT.to (CodeT.loop (fun n (z : Bool × Int) => fleet_CheckPool_L62 φ v1 (fleet_CheckPool_j25 φ v1) n z.1 z.2) r (fun z => ⟨Slots.of [(1, (eqv (.pointer (some ⟨b2, 0, none⟩)))), (6, (iv .i64 (v1.fRailways.length : Int))), (7, (bv z.1)), (135, (ro ePlace 3 v1.fNetwork.fPlaces)), (136, (iv .i64 (v1.fNetwork.fPlaces.length : Int))), (137, (iv .i64 z.2))], [(box b2 61 (ePool v1))]⟩) (fun z => rfl) (fun n62 z ih62 h => ?_) φ (v22, 0) h) [0] (sl rfl) (ol rfl) rfl
                obtain ⟨v60, v61⟩ := z
                replace h : fleet_CheckPool_L62 φ v1 (fleet_CheckPool_j25 φ v1) (n62 + 1) v60 v61 = some r := h
                rw [fleet_CheckPool_L62] at h
                refine cs (cr [0] rfl ?_)
                refine cq rfl rfl rfl (opLss (mv rfl) (mv rfl)) ?_
                refine rn (al [1, 6, 7, 135, 136, 137, 138] [0] rfl rfl rfl (sq (cs ?_)))
                refine CodeT.cond (decide (v61 < (v1.fNetwork.fPlaces.length : Int))) (evBool (mv rfl)) (fun c63 => ?_) (fun c63 => ?_)
                · rw [if_pos c63] at h
                  refine CodeT.skip ?_
                  refine al [1, 6, 7, 135, 136, 137] [0] rfl rfl rfl ?_
                  refine sq (cs ?_)
                  refine CodeT.block ?_
                  refine cs (cr [0, 1, 2, 3] rfl ?_)
                  refine ckE h fun h64 h => ?_
                  refine cq rfl rfl rfl (opIndexR (e := ePlace) (y := (gt v1.fNetwork.fPlaces v61)) (ix53 H) (mv rfl) (mv rfl) (h64).1 (gt_some h64)) ?_
                  refine RunOps.cons_q (agg (ePlace (gt v1.fNetwork.fPlaces v61))) rfl rfl rfl (opLoadN (tl77 H) (Pt.rop (mv rfl))) ?_
                  refine RunOps.cons rfl rfl rfl (opAlloc [.int .i64 0, .int .i64 0, .int .i64 0] (ze77 H) rfl fun b65 => ?_)
                  refine RunOps.cons rfl rfl rfl (opStore 1 (cells := [(iv .i64 0), (iv .i64 0), (iv .i64 0)]) (cs := (ePlace (gt v1.fNetwork.fPlaces v61))) (out := (ePlace (gt v1.fNetwork.fPlaces v61))) (tl77 H) (mv rfl) (Ce.agg (mv rfl)) rfl rfl (Nat.le_of_ble_eq_true rfl) rfl ?_)
                  refine rn (al [1, 6, 7, 15, 135, 136, 137] [0, 1] rfl rfl rfl (sq (cr [0, 1, 2, 3, 4, 5, 6, 7, 8, 9, 10, 11, 12, 13] rfl ?_)))
                  refine cq rfl rfl rfl (opMove (mv rfl)) ?_
                  refine cq rfl rfl rfl (opMove (mv rfl)) ?_
                  refine cg rfl rfl rfl rfl rfl (fun g66 => opFieldP (fo77_1 H) (mv rfl)) ?_
                  refine cg rfl rfl rfl rfl rfl (fun g67 => opLoad1 (tl3 H) ((Pt.box 1 (Ev.cnd (mv rfl) g67) rfl rfl).take 1 (cs' := [(iv .i64 ((gt v1.fNetwork.fPlaces v61).fRailway))]) rfl)) ?_
                  refine cg rfl rfl rfl rfl rfl (fun g68 => opMove (mv rfl)) ?_
                  refine cg rfl rfl rfl rfl rfl (fun g69 => opGeq (Ev.cnd (mv rfl) g69) (Ev.cnd (mv rfl) g69)) ?_
                  refine cq rfl rfl rfl (opOr (mv rfl) (Ev.const _) (fun g70 => (Ev.cnd (mv rfl) g70))) ?_
                  refine cq rfl rfl rfl (opMove (mv rfl)) ?_
                  refine cg rfl rfl rfl rfl rfl (fun g71 => opFieldP (fo77_2 H) (mv rfl)) ?_
                  refine cg rfl rfl rfl rfl rfl (fun g72 => opLoad1 (tl3 H) ((Pt.box 1 (Ev.cnd (mv rfl) g72) rfl rfl).take 1 (cs' := [(iv .i64 ((gt v1.fNetwork.fPlaces v61).fOther))]) rfl)) ?_
                  refine cg rfl rfl rfl rfl rfl (fun g73 => opMove (mv rfl)) ?_
                  refine cg rfl rfl rfl rfl rfl (fun g74 => opGeq (Ev.cnd (mv rfl) g74) (Ev.cnd (mv rfl) g74)) ?_
                  refine cq rfl rfl rfl (opOr (mv rfl) (Ev.const _) (fun g75 => (Ev.cnd (mv rfl) g75))) ?_
                  refine cq rfl rfl rfl (opAssign (mv rfl)) ?_
                  refine rn ?_
                  refine AtX.in_normal ?_
                  refine al [1, 6, 7, 135, 136, 137] [0] rfl rfl rfl ?_
                  refine sq (cr [0, 1] rfl ?_)
                  refine cq rfl rfl rfl (opAdd (mv rfl) (Ev.const _)) ?_
                  refine cq rfl rfl rfl (opMove (mv rfl)) ?_
                  refine rn ?_
                  exact AtX.to (ih62 (((v60 || decide ((v1.fRailways.length : Int) ≤ (gt v1.fNetwork.fPlaces v61).fRailway)) || decide ((v1.fRailways.length : Int) ≤ (gt v1.fNetwork.fPlaces v61).fOther)), (W (v61 + 1))) h) [0] (sl rfl) (ol rfl) rfl
                · rw [if_neg (bne_true c63)] at h
                  refine CodeT.exit ?_
                  refine AtX.then_exit ?_
                  refine AtX.then_exit ?_
                  refine AtX.in_hit ?_
                  exact AtX.to (hJ25 v60 h) [0] (sl rfl) (ol rfl) rfl
            · refine CodeT.block ?_
              refine CodeT.to (CodeT.loop (fun n (z : Bool × Int) => fleet_CheckPool_L78 φ v1 (fleet_CheckPool_j23 φ v1) n z.1 z.2) r (fun z => ⟨Slots.of [(1, (eqv (.pointer (some ⟨b2, 0, none⟩)))), (5, (ro ePlace 3 v1.fNetwork.fPlaces)), (6, (iv .i64 (v1.fRailways.length : Int))), (7, (bv z.1)), (120, (ro eWagon 5 v1.fFleet.fWagons)), (121, (iv .i64 (v1.fFleet.fWagons.length : Int))), (122, (iv .i64 z.2))], [(box b2 61 (ePool v1))]⟩) (fun z => rfl) (fun n78 z ih78 h => ?_) φ (v20, 0) h) [0] (sl rfl) (ol rfl) rfl
              obtain ⟨v76, v77⟩ := z
              replace h : fleet_CheckPool_L78 φ v1 (fleet_CheckPool_j23 φ v1) (n78 + 1) v76 v77 = some r := h
              rw [fleet_CheckPool_L78] at h
              refine cs (cr [0] rfl ?_)
              refine cq rfl rfl rfl (opLss (mv rfl) (mv rfl)) ?_
              refine rn (al [1, 5, 6, 7, 120, 121, 122, 123] [0] rfl rfl rfl (sq (cs ?_)))
              refine CodeT.cond (decide (v77 < (v1.fFleet.fWagons.length : Int))) (evBool (mv rfl)) (fun c79 => ?_) (fun c79 => ?_)
              · rw [if_pos c79] at h
                refine CodeT.skip ?_
                refine al [1, 5, 6, 7, 120, 121, 122] [0] rfl rfl rfl ?_
                refine sq (cs ?_)
                refine CodeT.block ?_
                refine cs (cr [0, 1, 2, 3] rfl ?_)
                refine ckE h fun h80 h => ?_
                refine cq rfl rfl rfl (opIndexR (e := eWagon) (y := (gt v1.fFleet.fWagons v77)) (ix23 H) (mv rfl) (mv rfl) (h80).1 (gt_some h80)) ?_
                refine RunOps.cons_q (agg (eWagon (gt v1.fFleet.fWagons v77))) rfl rfl rfl (opLoadN (tl47 H) (Pt.rop (mv rfl))) ?_
                refine RunOps.cons rfl rfl rfl (opAlloc [.int .i64 0, .int .i64 0, .int .i64 0, .int .i64 0, .int .i64 0] (ze47 H) rfl fun b81 => ?_)
                refine RunOps.cons rfl rfl rfl (opStore 1 (cells := [(iv .i64 0), (iv .i64 0), (iv .i64 0), (iv .i64 0), (iv .i64 0)]) (cs := (eWagon (gt v1.fFleet.fWagons v77))) (out := (eWagon (gt v1.fFleet.fWagons v77))) (tl47 H) (mv rfl) (Ce.agg (mv rfl)) rfl rfl (Nat.le_of_ble_eq_true rfl) rfl ?_)
                refine rn (al [1, 5, 6, 7, 13, 120, 121, 122] [0, 1] rfl rfl rfl (sq (cr [0, 1, 2, 3, 4, 5, 6, 7, 8] rfl ?_)))
                refine cq rfl rfl rfl (opMove (mv rfl)) ?_
                refine cq rfl rfl rfl (opMove (mv rfl)) ?_
                refine cg rfl rfl rfl rfl rfl (fun g82 => opFieldP (fo47_2 H) (mv rfl)) ?_
                refine cg rfl rfl rfl rfl rfl (fun g83 => opLoad1 (tl3 H) ((Pt.box 1 (Ev.cnd (mv rfl) g83) rfl rfl).take 1 (cs' := [(iv .i64 ((gt v1.fFleet.fWagons v77).fHome))]) rfl)) ?_
                refine cg rfl rfl rfl rfl rfl (fun g84 => opMove (mv rfl)) ?_
                refine cg rfl rfl rfl rfl rfl (fun g85 => opLenR (il53 H) (Ev.cnd (mv rfl) g85)) ?_
                refine cg rfl rfl rfl rfl rfl (fun g86 => opGeq (Ev.cnd (mv rfl) g86) (Ev.cnd (mv rfl) g86)) ?_
                refine cq rfl rfl rfl (opOr (mv rfl) (Ev.const _) (fun g87 => (Ev.cnd (mv rfl) g87))) ?_
                refine cq rfl rfl rfl (opAssign (mv rfl)) ?_
                refine rn ?_
                refine AtX.in_normal ?_
                refine al [1, 5, 6, 7, 120, 121, 122] [0] rfl rfl rfl ?_
                refine sq (cr [0, 1] rfl ?_)
                refine cq rfl rfl rfl (opAdd (mv rfl) (Ev.const _)) ?_
                refine cq rfl rfl rfl (opMove (mv rfl)) ?_
                refine rn ?_
                exact AtX.to (ih78 ((v76 || decide ((v1.fNetwork.fPlaces.length : Int) ≤ (gt v1.fFleet.fWagons v77).fHome)), (W (v77 + 1))) h) [0] (sl rfl) (ol rfl) rfl
              · rw [if_neg (bne_true c79)] at h
                refine CodeT.exit ?_
                refine AtX.then_exit ?_
                refine AtX.then_exit ?_
                refine AtX.in_hit ?_
                exact AtX.to (hJ23 v76 h) [0] (sl rfl) (ol rfl) rfl
          · refine CodeT.block ?_
            refine CodeT.to (CodeT.loop (fun n (z : Bool × Int) => fleet_CheckPool_L90 φ v1 (fleet_CheckPool_j21 φ v1) n z.1 z.2) r (fun z => ⟨Slots.of [(1, (eqv (.pointer (some ⟨b2, 0, none⟩)))), (5, (ro ePlace 3 v1.fNetwork.fPlaces)), (6, (iv .i64 (v1.fRailways.length : Int))), (7, (bv z.1)), (92, (ro eShipper 1 v1.fShippers)), (93, (iv .i64 (v1.fShippers.length : Int))), (94, (iv .i64 z.2))], [(box b2 61 (ePool v1))]⟩) (fun z => rfl) (fun n90 z ih90 h => ?_) φ (v18, 0) h) [0] (sl rfl) (ol rfl) rfl
            obtain ⟨v88, v89⟩ := z
            replace h : fleet_CheckPool_L90 φ v1 (fleet_CheckPool_j21 φ v1) (n90 + 1) v88 v89 = some r := h
            rw [fleet_CheckPool_L90] at h
            refine cs (cr [0] rfl ?_)
            refine cq rfl rfl rfl (opLss (mv rfl) (mv rfl)) ?_
            refine rn (al [1, 5, 6, 7, 92, 93, 94, 95] [0] rfl rfl rfl (sq (cs ?_)))
            refine CodeT.cond (decide (v89 < (v1.fShippers.length : Int))) (evBool (mv rfl)) (fun c91 => ?_) (fun c91 => ?_)
            · rw [if_pos c91] at h
              refine CodeT.skip ?_
              refine al [1, 5, 6, 7, 92, 93, 94] [0] rfl rfl rfl ?_
              refine sq (cs ?_)
              refine CodeT.block ?_
              refine cs (cr [0, 1, 2, 3] rfl ?_)
              refine ckE h fun h92 h => ?_
              refine cq rfl rfl rfl (opIndexR (e := eShipper) (y := (gt v1.fShippers v89)) (ix58 H) (mv rfl) (mv rfl) (h92).1 (gt_some h92)) ?_
              refine RunOps.cons_q (agg (eShipper (gt v1.fShippers v89))) rfl rfl rfl (opLoadN (tl79 H) (Pt.rop (mv rfl))) ?_
              refine RunOps.cons rfl rfl rfl (opAlloc [.int .i64 0] (ze79 H) rfl fun b93 => ?_)
              refine RunOps.cons rfl rfl rfl (opStore 1 (cells := [(iv .i64 0)]) (cs := (eShipper (gt v1.fShippers v89))) (out := (eShipper (gt v1.fShippers v89))) (tl79 H) (mv rfl) (Ce.agg (mv rfl)) rfl rfl (Nat.le_of_ble_eq_true rfl) rfl ?_)
              refine rn (al [1, 5, 6, 7, 11, 92, 93, 94] [0, 1] rfl rfl rfl (sq (cr [0, 1, 2, 3, 4, 5, 6, 7, 8, 9, 10, 11, 12, 13, 14, 15, 16, 17, 18, 19] rfl ?_)))
              refine cq rfl rfl rfl (opMove (mv rfl)) ?_
              refine cq rfl rfl rfl (opMove (mv rfl)) ?_
              refine cg rfl rfl rfl rfl rfl (fun g94 => opFieldP (fo79_0 H) (mv rfl)) ?_
              refine cg rfl rfl rfl rfl rfl (fun g95 => opLoad1 (tl3 H) ((Pt.box 1 (Ev.cnd (mv rfl) g95) rfl rfl).take 1 (cs' := [(iv .i64 ((gt v1.fShippers v89).fPlace))]) rfl)) ?_
              refine cg rfl rfl rfl rfl rfl (fun g96 => opMove (mv rfl)) ?_
              refine cg rfl rfl rfl rfl rfl (fun g97 => opLenR (il53 H) (Ev.cnd (mv rfl) g97)) ?_
              refine cg rfl rfl rfl rfl rfl (fun g98 => opSub (Ev.cnd (mv rfl) g98) (Ev.const _)) ?_
              refine bindE h fun y100 ey100 h => ?_
              refine cg rfl rfl rfl rfl rfl (fun g99 => opCallQ (fnok29 H) (args := [(iv .i64 ((gt v1.fShippers v89).fPlace)), (iv .i64 0), (iv .i64 (W ((v1.fNetwork.fPlaces.length : Int) - 1)))]) ⟨EvF.of (Ev.cnd (mv rfl) g99) FEnt.refl, EvF.of (Ev.const _) FEnt.refl, EvF.of (Ev.cnd (mv rfl) g99) FEnt.refl, trivial⟩ (fleet_between_ok H φ ((gt v1.fShippers v89).fPlace) 0 (W ((v1.fNetwork.fPlaces.length : Int) - 1)) _ (gcall_pos ey100 g99)) flat_eqv) ?_
              refine cg rfl rfl rfl rfl rfl (fun g101 => opNot (Ev.cnd (mv rfl) g101)) ?_
              refine cq rfl rfl rfl (opOr (mv rfl) (Ev.const _) (fun g102 => (Ev.cnd (mv rfl) g102))) ?_
              refine cq rfl rfl rfl (opMove (mv rfl)) ?_
              refine cg rfl rfl rfl rfl rfl (fun g103 => opMove (mv rfl)) ?_
              refine cg rfl rfl rfl rfl rfl (fun g104 => opFieldP (fo79_0 H) (mv rfl)) ?_
              refine cg rfl rfl rfl rfl rfl (fun g105 => opLoad1 (tl3 H) ((Pt.box 1 (Ev.cnd (mv rfl) g105) rfl rfl).take 1 (cs' := [(iv .i64 ((gt v1.fShippers v89).fPlace))]) rfl)) ?_
              refine ckE h fun h107 h => ?_
              refine cg rfl rfl rfl rfl rfl (fun g106 => opIndexR (e := ePlace) (y := (gt v1.fNetwork.fPlaces ((gt v1.fShippers v89).fPlace))) (ix53 H) (Ev.cnd (mv rfl) g106) (Ev.cnd (mv rfl) g106) ((h107 g106)).1 (gt_some (h107 g106))) ?_
              refine cg rfl rfl rfl rfl rfl (fun g108 => opFieldRT (fo77_0 H) (Ev.cnd (mv rfl) g108) (cs' := [(iv .i64 ((gt v1.fNetwork.fPlaces ((gt v1.fShippers v89).fPlace)).fKind))]) 1 rfl) ?_
              refine cg rfl rfl rfl rfl rfl (fun g109 => opLoad1 (tl3 H) (Pt.rop (Ev.cnd (mv rfl) g109))) ?_
              refine cg rfl rfl rfl rfl rfl (fun g110 => opNeq (Ev.cnd (mv rfl) g110) (Ev.const _)) ?_
              refine cq rfl rfl rfl (opOr (mv rfl) (Ev.const _) (fun g111 => (Ev.cnd (mv rfl) g111))) ?_
              refine cq rfl rfl rfl (opAssign (mv rfl)) ?_
              refine rn ?_
              refine AtX.in_normal ?_
              refine al [1, 5, 6, 7, 92, 93, 94] [0] rfl rfl rfl ?_
              refine sq (cr [0, 1] rfl ?_)
              refine cq rfl rfl rfl (opAdd (mv rfl) (Ev.const _)) ?_
              refine cq rfl rfl rfl (opMove (mv rfl)) ?_
              refine rn ?_
              exact AtX.to (ih90 (((v88 || (!y100)) || ((gt v1.fNetwork.fPlaces ((gt v1.fShippers v89).fPlace)).fKind != 4)), (W (v89 + 1))) h) [0] (sl rfl) (ol rfl) rfl
            · rw [if_neg (bne_true c91)] at h
              refine CodeT.exit ?_
              refine AtX.then_exit ?_
              refine AtX.then_exit ?_
              refine AtX.in_hit ?_
              exact AtX.to (hJ21 v88 h) [0] (sl rfl) (ol rfl) rfl
        · refine CodeT.block ?_
          refine CodeT.to (CodeT.loop (fun n (z : Bool × Int) => fleet_CheckPool_L114 φ v1 (fleet_CheckPool_j19 φ v1) n z.1 z.2) r (fun z => ⟨Slots.of [(1, (eqv (.pointer (some ⟨b2, 0, none⟩)))), (5, (ro ePlace 3 v1.fNetwork.fPlaces)), (6, (iv .i64 (v1.fRailways.length : Int))), (7, (bv z.1)), (57, (ro eReader 3 v1.fReaders)), (58, (iv .i64 (v1.fReaders.length : Int))), (59, (iv .i64 z.2))], [(box b2 61 (ePool v1))]⟩) (fun z => rfl) (fun n114 z ih114 h => ?_) φ (((v1.fRailways.length : Int) == 0), 0) h) [0] (sl rfl) (ol rfl) rfl
          obtain ⟨v112, v113⟩ := z
          replace h : fleet_CheckPool_L114 φ v1 (fleet_CheckPool_j19 φ v1) (n114 + 1) v112 v113 = some r := h
          rw [fleet_CheckPool_L114] at h
          refine cs (cr [0] rfl ?_)
          refine cq rfl rfl rfl (opLss (mv rfl) (mv rfl)) ?_
          refine rn (al [1, 5, 6, 7, 57, 58, 59, 60] [0] rfl rfl rfl (sq (cs ?_)))
          refine CodeT.cond (decide (v113 < (v1.fReaders.length : Int))) (evBool (mv rfl)) (fun c115 => ?_) (fun c115 => ?_)
          · rw [if_pos c115] at h
            refine CodeT.skip ?_
            refine al [1, 5, 6, 7, 57, 58, 59] [0] rfl rfl rfl ?_
            refine sq (cs ?_)
            refine CodeT.block ?_
            refine cs (cr [0, 1, 2, 3] rfl ?_)
            refine ckE h fun h116 h => ?_
            refine cq rfl rfl rfl (opIndexR (e := eReader) (y := (gt v1.fReaders v113)) (ix57 H) (mv rfl) (mv rfl) (h116).1 (gt_some h116)) ?_
            refine RunOps.cons_q (agg (eReader (gt v1.fReaders v113))) rfl rfl rfl (opLoadN (tl75 H) (Pt.rop (mv rfl))) ?_
            refine RunOps.cons rfl rfl rfl (opAlloc [.int .i64 0, .int .i64 0, .int .i64 0] (ze75 H) rfl fun b117 => ?_)
            refine RunOps.cons rfl rfl rfl (opStore 1 (cells := [(iv .i64 0), (iv .i64 0), (iv .i64 0)]) (cs := (eReader (gt v1.fReaders v113))) (out := (eReader (gt v1.fReaders v113))) (tl75 H) (mv rfl) (Ce.agg (mv rfl)) rfl rfl (Nat.le_of_ble_eq_true rfl) rfl ?_)
            refine rn (al [1, 5, 6, 7, 9, 57, 58, 59] [0, 1] rfl rfl rfl (sq (cr [0, 1, 2, 3, 4, 5, 6, 7, 8, 9, 10, 11, 12, 13, 14, 15, 16, 17, 18, 19, 20, 21, 22, 23, 24, 25, 26, 27] rfl ?_)))
            refine cq rfl rfl rfl (opMove (mv rfl)) ?_
            refine cq rfl rfl rfl (opMove (mv rfl)) ?_
            refine cg rfl rfl rfl rfl rfl (fun g118 => opFieldP (fo75_0 H) (mv rfl)) ?_
            refine cg rfl rfl rfl rfl rfl (fun g119 => opLoad1 (tl3 H) ((Pt.box 1 (Ev.cnd (mv rfl) g119) rfl rfl).take 1 (cs' := [(iv .i64 ((gt v1.fReaders v113).fPlace))]) rfl)) ?_
            refine cg rfl rfl rfl rfl rfl (fun g120 => opMove (mv rfl)) ?_
            refine cg rfl rfl rfl rfl rfl (fun g121 => opLenR (il53 H) (Ev.cnd (mv rfl) g121)) ?_
            refine cg rfl rfl rfl rfl rfl (fun g122 => opSub (Ev.cnd (mv rfl) g122) (Ev.const _)) ?_
            refine bindE h fun y124 ey124 h => ?_
            refine cg rfl rfl rfl rfl rfl (fun g123 => opCallQ (fnok29 H) (args := [(iv .i64 ((gt v1.fReaders v113).fPlace)), (iv .i64 0), (iv .i64 (W ((v1.fNetwork.fPlaces.length : Int) - 1)))]) ⟨EvF.of (Ev.cnd (mv rfl) g123) FEnt.refl, EvF.of (Ev.const _) FEnt.refl, EvF.of (Ev.cnd (mv rfl) g123) FEnt.refl, trivial⟩ (fleet_between_ok H φ ((gt v1.fReaders v113).fPlace) 0 (W ((v1.fNetwork.fPlaces.length : Int) - 1)) _ (gcall_pos ey124 g123)) flat_eqv) ?_
            refine cg rfl rfl rfl rfl rfl (fun g125 => opNot (Ev.cnd (mv rfl) g125)) ?_
            refine cq rfl rfl rfl (opOr (mv rfl) (Ev.const _) (fun g126 => (Ev.cnd (mv rfl) g126))) ?_
            refine cq rfl rfl rfl (opMove (mv rfl)) ?_
            refine cg rfl rfl rfl rfl rfl (fun g127 => opFieldP (fo75_1 H) (mv rfl)) ?_
            refine cg rfl rfl rfl rfl rfl (fun g128 => opLoad1 (tl3 H) ((Pt.box 1 (Ev.cnd (mv rfl) g128) rfl rfl).take 1 (cs' := [(iv .i64 ((gt v1.fReaders v113).fLow))]) rfl)) ?_
            refine cg rfl rfl rfl rfl rfl (fun g129 => opLss (Ev.cnd (mv rfl) g129) (Ev.const _)) ?_
            refine cq rfl rfl rfl (opOr (mv rfl) (Ev.const _) (fun g130 => (Ev.cnd (mv rfl) g130))) ?_
            refine cq rfl rfl rfl (opMove (mv rfl)) ?_
            refine cg rfl rfl rfl rfl rfl (fun g131 => opFieldP (fo75_1 H) (mv rfl)) ?_
            refine cg rfl rfl rfl rfl rfl (fun g132 => opLoad1 (tl3 H) ((Pt.box 1 (Ev.cnd (mv rfl) g132) rfl rfl).take 1 (cs' := [(iv .i64 ((gt v1.fReaders v113).fLow))]) rfl)) ?_
            refine cg rfl rfl rfl rfl rfl (fun g133 => opFieldP (fo75_2 H) (mv rfl)) ?_
            refine cg rfl rfl rfl rfl rfl (fun g134 => opLoad1 (tl3 H) ((Pt.box 1 (Ev.cnd (mv rfl) g134) rfl rfl).take 1 (cs' := [(iv .i64 ((gt v1.fReaders v113).fHigh))]) rfl)) ?_
            refine cg rfl rfl rfl rfl rfl (fun g135 => opGtr (Ev.cnd (mv rfl) g135) (Ev.cnd (mv rfl) g135)) ?_
            refine cq rfl rfl rfl (opOr (mv rfl) (Ev.const _) (fun g136 => (Ev.cnd (mv rfl) g136))) ?_
            refine cq rfl rfl rfl (opMove (mv rfl)) ?_
            refine cg rfl rfl rfl rfl rfl (fun g137 => opFieldP (fo75_2 H) (mv rfl)) ?_
            refine cg rfl rfl rfl rfl rfl (fun g138 => opLoad1 (tl3 H) ((Pt.box 1 (Ev.cnd (mv rfl) g138) rfl rfl).take 1 (cs' := [(iv .i64 ((gt v1.fReaders v113).fHigh))]) rfl)) ?_
            refine cg rfl rfl rfl rfl rfl (fun g139 => opGtr (Ev.cnd (mv rfl) g139) (Ev.const _)) ?_
            refine cq rfl rfl rfl (opOr (mv rfl) (Ev.const _) (fun g140 => (Ev.cnd (mv rfl) g140))) ?_
            refine cq rfl rfl rfl (opAssign (mv rfl)) ?_
            refine rn ?_
            refine AtX.in_normal ?_
            refine al [1, 5, 6, 7, 57, 58, 59] [0] rfl rfl rfl ?_
            refine sq (cr [0, 1] rfl ?_)
            refine cq rfl rfl rfl (opAdd (mv rfl) (Ev.const _)) ?_
            refine cq rfl rfl rfl (opMove (mv rfl)) ?_
            refine rn ?_
            exact AtX.to (ih114 (((((v112 || (!y124)) || decide ((gt v1.fReaders v113).fLow < (-1000))) || decide ((gt v1.fReaders v113).fHigh < (gt v1.fReaders v113).fLow)) || decide (1000 < (gt v1.fReaders v113).fHigh)), (W (v113 + 1))) h) [0] (sl rfl) (ol rfl) rfl
          · rw [if_neg (bne_true c115)] at h
            refine CodeT.exit ?_
            refine AtX.then_exit ?_
            refine AtX.then_exit ?_
            refine AtX.in_hit ?_
            exact AtX.to (hJ19 v112 h) [0] (sl rfl) (ol rfl) rfl
theorem ref09_ends_ok {P : Program} (H : P = Try.prog) (φ : Nat) (v1 : Pool) (r : (Bool)) (h : ref09_ends φ v1 = some r) : PureT P 41 [(agg (ePool v1))] (fun x news => x = (bv r) ∧ news = []) := by
  unfold ref09_ends at h
  refine PureT.of_code' 96 (fn41 H) rfl rfl (Nat.le_of_ble_eq_true rfl) fun w0 base r0 wI => ?_
  refine cl [0] [] rfl rfl rfl ?_
  refine cs (cr [0, 1] rfl ?_)
  refine RunOps.cons rfl rfl rfl (opBox (cs := (ePool v1)) (Ce.agg (mv rfl)) fun b2 => ?_)
  refine cq rfl rfl rfl (opAssign (Ev.const _)) ?_
  refine rn (al [1] [0] rfl rfl rfl (sq (cs (cr [0, 1, 2, 3, 4] rfl ?_))))
  refine cq rfl rfl rfl (opFieldP (fo61_0 H) (mv rfl)) ?_
  refine cq rfl rfl rfl (opFieldP (fo56_0 H) (mv rfl)) ?_
  refine cq rfl rfl rfl (opLoad1 (tl53 H) ((Pt.box 0 (mv rfl) rfl rfl).take 1 (cs' := [(ro ePlace 3 v1.fNetwork.fPlaces)]) rfl)) ?_
  refine cq rfl rfl rfl (opLenR (il53 H) (mv rfl)) ?_
  refine cq rfl rfl rfl (opAssign (mv rfl)) ?_
  refine rn (al [1, 3] [0] rfl rfl rfl (sq (cs (cs (cr [0] rfl ?_)))))
  refine cq rfl rfl rfl (opAssign (Ev.const _)) ?_
  refine rn (al [1, 3, 4] [0] rfl rfl rfl (sq ?_))
  refine CodeT.join (fun z : Unit => (ref09_ends_j3 φ v1)) r (fun z => ⟨Slots.of [(1, (eqv (.pointer (some ⟨b2, 0, none⟩)))), (3, (iv .i64 (v1.fNetwork.fPlaces.length : Int)))], [(box b2 61 (ePool v1))]⟩) (fun z h => ?_) (fun hJ3 => ?_)
  · replace h : (ref09_ends_j3 φ v1) = some r := h
    unfold ref09_ends_j3 at h
    refine al [1, 3] [0] rfl rfl rfl ?_
    refine sq (cs (cs (cr [0] rfl ?_)))
    refine cq rfl rfl rfl (opAssign (Ev.const _)) ?_
    refine rn (al [1, 3, 6] [0] rfl rfl rfl (sq ?_))
    refine CodeT.join (fun z : Unit => (ref09_ends_j4 φ v1)) r (fun z => ⟨Slots.of [(1, (eqv (.pointer (some ⟨b2, 0, none⟩)))), (3, (iv .i64 (v1.fNetwork.fPlaces.length : Int)))], [(box b2 61 (ePool v1))]⟩) (fun z h => ?_) (fun hJ4 => ?_)
    · replace h : (ref09_ends_j4 φ v1) = some r := h
      unfold ref09_ends_j4 at h
      refine al [1, 3] [0] rfl rfl rfl ?_
      refine sq (cs (cs (cr [0] rfl ?_)))
      refine cq rfl rfl rfl (opAssign (Ev.const _)) ?_
      refine rn (al [1, 3, 7] [0] rfl rfl rfl (sq ?_))
      refine CodeT.join (fun z : Unit => (ref09_ends_j5 φ)) r (fun z => ⟨Slots.of [], []⟩) (fun z h => ?_) (fun hJ5 => ?_)
      · replace h : (ref09_ends_j5 φ) = some r := h
        unfold ref09_ends_j5 at h
        refine al [] [] rfl rfl rfl ?_
        refine sq (cs (cr [0] rfl ?_))
        refine cq rfl rfl rfl (opAssign (Ev.const _)) ?_
        refine rn (al [2] [] rfl rfl rfl (sq ?_))
        refine CodeT.ret ?_
        refine AtX.ret' (bv true) (ResOK.one Try.results41 rfl) [] [] trivial rfl ?_
        obtain rfl := Option.some.inj h
        exact ⟨rfl, rfl⟩
      · refine CodeT.block ?_
        refine CodeT.to (CodeT.loop (fun n (z : Int) => ref09_ends_L7 φ v1 (ref09_ends_j5 φ) n z) r (fun z => ⟨Slots.of [(1, (eqv (.pointer (some ⟨b2, 0, none⟩)))), (3, (iv .i64 (v1.fNetwork.fPlaces.length : Int))), (7, (iv .i64 z))], [(box b2 61 (ePool v1))]⟩) (fun z => rfl) (fun n7 v6 ih7 h => ?_) φ 0 h) [0] (sl rfl) (ol rfl) rfl
        replace h : ref09_ends_L7 φ v1 (ref09_ends_j5 φ) (n7 + 1) v6 = some r := h
        rw [ref09_ends_L7] at h
        refine cs (cs (cr [0, 1, 2, 3, 4, 5] rfl ?_))
        refine cq rfl rfl rfl (opMove (mv rfl)) ?_
        refine cq rfl rfl rfl (opFieldP (fo61_1 H) (mv rfl)) ?_
        refine cq rfl rfl rfl (opFieldP (fo27_1 H) (mv rfl)) ?_
        refine cq rfl rfl rfl (opLoad1 (tl23 H) ((Pt.box 0 (mv rfl) rfl rfl).take 1 (cs' := [(ro eWagon 5 v1.fFleet.fWagons)]) rfl)) ?_
        refine cq rfl rfl rfl (opLenR (il23 H) (mv rfl)) ?_
        refine cq rfl rfl rfl (opLss (mv rfl) (mv rfl)) ?_
        refine rn (al [1, 3, 7, 84] [0] rfl rfl rfl (sq ?_))
        refine CodeT.cond (decide (v6 < (v1.fFleet.fWagons.length : Int))) (evBool (mv rfl)) (fun c8 => ?_) (fun c8 => ?_)
        · rw [if_pos c8] at h
          refine CodeT.skip ?_
          refine al [1, 3, 7] [0] rfl rfl rfl ?_
          refine sq (cs ?_)
          refine CodeT.block ?_
          refine cs (cr [0, 1, 2, 3, 4, 5, 6, 7, 8] rfl ?_)
          refine cq rfl rfl rfl (opFieldP (fo61_1 H) (mv rfl)) ?_
          refine cq rfl rfl rfl (opFieldP (fo27_1 H) (mv rfl)) ?_
          refine cq rfl rfl rfl (opLoad1 (tl23 H) ((Pt.box 0 (mv rfl) rfl rfl).take 1 (cs' := [(ro eWagon 5 v1.fFleet.fWagons)]) rfl)) ?_
          refine cq rfl rfl rfl (opMove (mv rfl)) ?_
          refine ckE h fun h9 h => ?_
          refine cq rfl rfl rfl (opIndexR (e := eWagon) (y := (gt v1.fFleet.fWagons v6)) (ix23 H) (mv rfl) (mv rfl) (h9).1 (gt_some h9)) ?_
          refine cq rfl rfl rfl (opFieldRT (fo47_2 H) (mv rfl) (cs' := [(iv .i64 ((gt v1.fFleet.fWagons v6).fHome))]) 1 rfl) ?_
          refine cq rfl rfl rfl (opLoad1 (tl3 H) (Pt.rop (mv rfl))) ?_
          refine cq rfl rfl rfl (opMove (mv rfl)) ?_
          refine cq rfl rfl rfl (opGeq (mv rfl) (mv rfl)) ?_
          refine rn (al [1, 3, 7, 95] [0] rfl rfl rfl (sq ?_))
          refine CodeT.cond (decide ((v1.fNetwork.fPlaces.length : Int) ≤ (gt v1.fFleet.fWagons v6).fHome)) (evBool (mv rfl)) (fun c10 => ?_) (fun c10 => ?_)
          · rw [if_pos c10] at h
            refine cs (cr [0] rfl ?_)
            refine cq rfl rfl rfl (opAssign (Ev.const _)) ?_
            refine rn (al [2] [] rfl rfl rfl (sq ?_))
            refine CodeT.ret ?_
            refine AtX.in_ret ?_
            refine AtX.then_ret ?_
            refine AtX.then_ret ?_
            refine AtX.in_ret ?_
            refine AtX.then_ret ?_
            refine AtX.ret' (bv false) (ResOK.one Try.results41 rfl) [] [] trivial rfl ?_
            obtain rfl := Option.some.inj h
            exact ⟨rfl, rfl⟩
          · rw [if_neg (bne_true c10)] at h
            refine CodeT.skip ?_
            refine AtX.in_normal ?_
            refine al [1, 3, 7] [0] rfl rfl rfl ?_
            refine sq (cr [0, 1, 2] rfl ?_)
            refine cq rfl rfl rfl (opMove (mv rfl)) ?_
            refine cq rfl rfl rfl (opAdd (mv rfl) (Ev.const _)) ?_
            refine cq rfl rfl rfl (opAssign (mv rfl)) ?_
            refine rn ?_
            exact AtX.to (ih7 (W (v6 + 1)) h) [0] (sl rfl) (ol rfl) rfl
        · rw [if_neg (bne_true c8)] at h
          refine CodeT.exit ?_
          refine AtX.then_exit ?_
          refine AtX.then_exit ?_
          refine AtX.in_hit ?_
          exact AtX.to (hJ5 () h) [] trivial trivial rfl
    · refine CodeT.block ?_
      refine CodeT.to (CodeT.loop (fun n (z : Int) => ref09_ends_L12 φ v1 (ref09_ends_j4 φ v1) n z) r (fun z => ⟨Slots.of [(1, (eqv (.pointer (some ⟨b2, 0, none⟩)))), (3, (iv .i64 (v1.fNetwork.fPlaces.length : Int))), (6, (iv .i64 z))], [(box b2 61 (ePool v1))]⟩) (fun z => rfl) (fun n12 v11 ih12 h => ?_) φ 0 h) [0] (sl rfl) (ol rfl) rfl
      replace h : ref09_ends_L12 φ v1 (ref09_ends_j4 φ v1) (n12 + 1) v11 = some r := h
      rw [ref09_ends_L12] at h
      refine cs (cs (cr [0, 1, 2, 3, 4] rfl ?_))
      refine cq rfl rfl rfl (opMove (mv rfl)) ?_
      refine cq rfl rfl rfl (opFieldP (fo61_3 H) (mv rfl)) ?_
      refine cq rfl rfl rfl (opLoad1 (tl58 H) ((Pt.box 0 (mv rfl) rfl rfl).take 1 (cs' := [(ro eShipper 1 v1.fShippers)]) rfl)) ?_
      refine cq rfl rfl rfl (opLenR (il58 H) (mv rfl)) ?_
      refine cq rfl rfl rfl (opLss (mv rfl) (mv rfl)) ?_
      refine rn (al [1, 3, 6, 51] [0] rfl rfl rfl (sq ?_))
      refine CodeT.cond (decide (v11 < (v1.fShippers.length : Int))) (evBool (mv rfl)) (fun c13 => ?_) (fun c13 => ?_)
      · rw [if_pos c13] at h
        refine CodeT.skip ?_
        refine al [1, 3, 6] [0] rfl rfl rfl ?_
        refine sq (cs ?_)
        refine CodeT.block ?_
        refine cs ?_
        refine ckE h fun h14 h => ?_
        refine bindE h fun y15 ey15 h => ?_
        refine ckE h fun h26 h => ?_
        refine CodeT.draw (QR := [(0, (eqv (.pointer (some ⟨b2, 7, none⟩)))), (1, (ro eShipper 1 v1.fShippers)), (2, (iv .i64 v11)), (3, (rop (eShipper (gt v1.fShippers v11)))), (4, (rop [(iv .i64 ((gt v1.fShippers v11).fPlace))])), (5, (iv .i64 ((gt v1.fShippers v11).fPlace))), (6, (iv .i64 (v1.fNetwork.fPlaces.length : Int))), (7, (iv .i64 (W ((v1.fNetwork.fPlaces.length : Int) - 1)))), (8, (bv y15)), (9, (bv (!y15))), (10, (bv (!y15))), (11, (cnd ((!y15) = false) (eqv (.pointer (some ⟨b2, 0, none⟩))))), (12, (cnd ((!y15) = false) (eqv (.pointer (some ⟨b2, 0, none⟩))))), (13, (cnd ((!y15) = false) (ro ePlace 3 v1.fNetwork.fPlaces))), (14, (cnd ((!y15) = false) (eqv (.pointer (some ⟨b2, 7, none⟩))))), (15, (cnd ((!y15) = false) (ro eShipper 1 v1.fShippers))), (16, (cnd ((!y15) = false) (iv .i64 v11))), (17, (cnd ((!y15) = false) (rop (eShipper (gt v1.fShippers v11))))), (18, (cnd ((!y15) = false) (rop [(iv .i64 ((gt v1.fShippers v11).fPlace))]))), (19, (cnd ((!y15) = false) (iv .i64 ((gt v1.fShippers v11).fPlace)))), (20, (cnd ((!y15) = false) (rop (ePlace (gt v1.fNetwork.fPlaces ((gt v1.fShippers v11).fPlace)))))), (21, (cnd ((!y15) = false) (rop [(iv .i64 ((gt v1.fNetwork.fPlaces ((gt v1.fShippers v11).fPlace)).fKind))]))), (22, (cnd ((!y15) = false) (iv .i64 ((gt v1.fNetwork.fPlaces ((gt v1.fShippers v11).fPlace)).fKind)))), (23, (cnd ((!y15) = false) (bv ((gt v1.fNetwork.fPlaces ((gt v1.fShippers v11).fPlace)).fKind != 4)))), (24, (bv ((!y15) || ((gt v1.fNetwork.fPlaces ((gt v1.fShippers v11).fPlace)).fKind != 4))))]) (tab := [(some 54, []), (some 55, [0]), (some 56, []), (some 57, [1, 2]), (some 58, [3]), (some 59, [4]), (some 60, []), (some 61, [6]), (some 62, [5, 7]), (some 63, [8]), (some 64, [9, 8]), (some 65, [10]), (some 66, [11, 10]), (some 67, [12, 10]), (some 68, [10]), (some 69, [14, 10]), (some 70, [10]), (some 71, [15, 16, 10]), (some 72, [17, 10]), (some 73, [18, 10]), (some 74, [13, 19, 10]), (some 75, [20, 10]), (some 76, [21, 10]), (some 77, [22, 10]), (some 78, [10, 23])]) (mixed H) ?_
        refine Reg.intro [] [] (by kernel_rfl) rfl ⟨rfl, rfl, rfl, rfl, rfl, rfl, rfl, rfl, rfl, rfl, rfl, rfl, rfl, rfl, rfl, rfl, rfl, rfl, rfl, rfl, rfl, rfl, rfl, rfl, rfl, trivial⟩ ⟨(fun _ => ⟨_, rfl, (opFieldP (fo61_3 H) (mv rfl))⟩), (fun _ => ⟨_, rfl, (opLoad1 (tl58 H) ((Pt.box 0 (mv rfl) rfl rfl).take 1 (cs' := [(ro eShipper 1 v1.fShippers)]) rfl))⟩), (fun _ => ⟨_, rfl, (opMove (mv rfl))⟩), (fun _ => ⟨_, rfl, (opIndexR (e := eShipper) (y := (gt v1.fShippers v11)) (ix58 H) (mv rfl) (mv rfl) (h14).1 (gt_some h14))⟩), (fun _ => ⟨_, rfl, (opFieldRT (fo79_0 H) (mv rfl) (cs' := [(iv .i64 ((gt v1.fShippers v11).fPlace))]) 1 rfl)⟩), (fun _ => ⟨_, rfl, (opLoad1 (tl3 H) (Pt.rop (mv rfl)))⟩), (fun _ => ⟨_, rfl, (opMove (mv rfl))⟩), (fun _ => ⟨_, rfl, (opSub (mv rfl) (Ev.const _))⟩), (fun _ => ⟨_, rfl, (opCallQ (fnok30 H) (args := [(iv .i64 ((gt v1.fShippers v11).fPlace)), (iv .i64 0), (iv .i64 (W ((v1.fNetwork.fPlaces.length : Int) - 1)))]) ⟨EvF.of (mv rfl) FEnt.refl, EvF.of (Ev.const _) FEnt.refl, EvF.of (mv rfl) FEnt.refl, trivial⟩ (ref09_within_ok H φ ((gt v1.fShippers v11).fPlace) 0 (W ((v1.fNetwork.fPlaces.length : Int) - 1)) _ ey15) flat_eqv)⟩), (fun _ => ⟨_, rfl, (opNot (mv rfl))⟩), (fun _ => ⟨_, rfl, (opMove (mv rfl))⟩), (fun _ => ⟨_, rfl, ⟨((!y15) = false), (eqv (.pointer (some ⟨b2, 0, none⟩))), 64, rfl, rfl, fun g16 => (opFieldP (fo61_0 H) (mv rfl)), .inl ⟨(!y15), rfl, rfl⟩⟩⟩), (fun _ => ⟨_, rfl, ⟨((!y15) = false), (eqv (.pointer (some ⟨b2, 0, none⟩))), 64, rfl, rfl, fun g17 => (opFieldP (fo56_0 H) (Ev.cnd (mv rfl) g17)), .inl ⟨(!y15), rfl, rfl⟩⟩⟩), (fun _ => ⟨_, rfl, ⟨((!y15) = false), (ro ePlace 3 v1.fNetwork.fPlaces), 64, rfl, rfl, fun g18 => (opLoad1 (tl53 H) ((Pt.box 0 (Ev.cnd (mv rfl) g18) rfl rfl).take 1 (cs' := [(ro ePlace 3 v1.fNetwork.fPlaces)]) rfl)), .inl ⟨(!y15), rfl, rfl⟩⟩⟩), (fun _ => ⟨_, rfl, ⟨((!y15) = false), (eqv (.pointer (some ⟨b2, 7, none⟩))), 64, rfl, rfl, fun g19 => (opFieldP (fo61_3 H) (mv rfl)), .inl ⟨(!y15), rfl, rfl⟩⟩⟩), (fun _ => ⟨_, rfl, ⟨((!y15) = false), (ro eShipper 1 v1.fShippers), 64, rfl, rfl, fun g20 => (opLoad1 (tl58 H) ((Pt.box 0 (Ev.cnd (mv rfl) g20) rfl rfl).take 1 (cs' := [(ro eShipper 1 v1.fShippers)]) rfl)), .inl ⟨(!y15), rfl, rfl⟩⟩⟩), (fun _ => ⟨_, rfl, ⟨((!y15) = false), (iv .i64 v11), 64, rfl, rfl, fun g21 => (opMove (mv rfl)), .inl ⟨(!y15), rfl, rfl⟩⟩⟩), (fun _ => ⟨_, rfl, ⟨((!y15) = false), (rop (eShipper (gt v1.fShippers v11))), 64, rfl, rfl, fun g22 => (opIndexR (e := eShipper) (y := (gt v1.fShippers v11)) (ix58 H) (Ev.cnd (mv rfl) g22) (Ev.cnd (mv rfl) g22) (h14).1 (gt_some h14)), .inl ⟨(!y15), rfl, rfl⟩⟩⟩), (fun _ => ⟨_, rfl, ⟨((!y15) = false), (rop [(iv .i64 ((gt v1.fShippers v11).fPlace))]), 64, rfl, rfl, fun g23 => (opFieldRT (fo79_0 H) (Ev.cnd (mv rfl) g23) (cs' := [(iv .i64 ((gt v1.fShippers v11).fPlace))]) 1 rfl), .inl ⟨(!y15), rfl, rfl⟩⟩⟩), (fun _ => ⟨_, rfl, ⟨((!y15) = false), (iv .i64 ((gt v1.fShippers v11).fPlace)), 64, rfl, rfl, fun g24 => (opLoad1 (tl3 H) (Pt.rop (Ev.cnd (mv rfl) g24))), .inl ⟨(!y15), rfl, rfl⟩⟩⟩), (fun _ => ⟨_, rfl, ⟨((!y15) = false), (rop (ePlace (gt v1.fNetwork.fPlaces ((gt v1.fShippers v11).fPlace)))), 64, rfl, rfl, fun g25 => (opIndexR (e := ePlace) (y := (gt v1.fNetwork.fPlaces ((gt v1.fShippers v11).fPlace))) (ix53 H) (Ev.cnd (mv rfl) g25) (Ev.cnd (mv rfl) g25) ((h26 g25)).1 (gt_some (h26 g25))), .inl ⟨(!y15), rfl, rfl⟩⟩⟩), (fun _ => ⟨_, rfl, ⟨((!y15) = false), (rop [(iv .i64 ((gt v1.fNetwork.fPlaces ((gt v1.fShippers v11).fPlace)).fKind))]), 64, rfl, rfl, fun g27 => (opFieldRT (fo77_0 H) (Ev.cnd (mv rfl) g27) (cs' := [(iv .i64 ((gt v1.fNetwork.fPlaces ((gt v1.fShippers v11).fPlace)).fKind))]) 1 rfl), .inl ⟨(!y15), rfl, rfl⟩⟩⟩), (fun _ => ⟨_, rfl, ⟨((!y15) = false), (iv .i64 ((gt v1.fNetwork.fPlaces ((gt v1.fShippers v11).fPlace)).fKind)), 64, rfl, rfl, fun g28 => (opLoad1 (tl3 H) (Pt.rop (Ev.cnd (mv rfl) g28))), .inl ⟨(!y15), rfl, rfl⟩⟩⟩), (fun _ => ⟨_, rfl, ⟨((!y15) = false), (bv ((gt v1.fNetwork.fPlaces ((gt v1.fShippers v11).fPlace)).fKind != 4)), 64, rfl, rfl, fun g29 => (opNeq (Ev.cnd (mv rfl) g29) (Ev.const _)), .inl ⟨(!y15), rfl, rfl⟩⟩⟩), (fun _ => ⟨_, rfl, (opOr (mv rfl) (Ev.const _) (fun g30 => (Ev.cnd (mv rfl) g30)))⟩), trivial⟩ trivial (fun _ => ?_)
        refine al [1, 3, 6, 78] [0] rfl rfl rfl ?_
        refine sq ?_
        refine CodeT.cond ((!y15) || ((gt v1.fNetwork.fPlaces ((gt v1.fShippers v11).fPlace)).fKind != 4)) (evBool (mv rfl)) (fun c31 => ?_) (fun c31 => ?_)
        · rw [if_pos c31] at h
          refine cs (cr [0] rfl ?_)
          refine cq rfl rfl rfl (opAssign (Ev.const _)) ?_
          refine rn (al [2] [] rfl rfl rfl (sq ?_))
          refine CodeT.ret ?_
          refine AtX.in_ret ?_
          refine AtX.then_ret ?_
          refine AtX.then_ret ?_
          refine AtX.in_ret ?_
          refine AtX.then_ret ?_
          refine AtX.ret' (bv false) (ResOK.one Try.results41 rfl) [] [] trivial rfl ?_
          obtain rfl := Option.some.inj h
          exact ⟨rfl, rfl⟩
        · rw [if_neg (bne_true c31)] at h
          refine CodeT.skip ?_
          refine AtX.in_normal ?_
          refine al [1, 3, 6] [0] rfl rfl rfl ?_
          refine sq (cr [0, 1, 2] rfl ?_)
          refine cq rfl rfl rfl (opMove (mv rfl)) ?_
          refine cq rfl rfl rfl (opAdd (mv rfl) (Ev.const _)) ?_
          refine cq rfl rfl rfl (opAssign (mv rfl)) ?_
          refine rn ?_
          exact AtX.to (ih12 (W (v11 + 1)) h) [0] (sl rfl) (ol rfl) rfl
      · rw [if_neg (bne_true c13)] at h
        refine CodeT.exit ?_
        refine AtX.then_exit ?_
        refine AtX.then_exit ?_
        refine AtX.in_hit ?_
        exact AtX.to (hJ4 () h) [0] (sl rfl) (ol rfl) rfl
  · refine CodeT.block ?_
    refine CodeT.to (CodeT.loop (fun n (z : Int) => ref09_ends_L33 φ v1 (ref09_ends_j3 φ v1) n z) r (fun z => ⟨Slots.of [(1, (eqv (.pointer (some ⟨b2, 0, none⟩)))), (3, (iv .i64 (v1.fNetwork.fPlaces.length : Int))), (4, (iv .i64 z))], [(box b2 61 (ePool v1))]⟩) (fun z => rfl) (fun n33 v32 ih33 h => ?_) φ 0 h) [0] (sl rfl) (ol rfl) rfl
    replace h : ref09_ends_L33 φ v1 (ref09_ends_j3 φ v1) (n33 + 1) v32 = some r := h
    rw [ref09_ends_L33] at h
    refine cs (cs (cr [0, 1, 2, 3, 4] rfl ?_))
    refine cq rfl rfl rfl (opMove (mv rfl)) ?_
    refine cq rfl rfl rfl (opFieldP (fo61_2 H) (mv rfl)) ?_
    refine cq rfl rfl rfl (opLoad1 (tl57 H) ((Pt.box 0 (mv rfl) rfl rfl).take 1 (cs' := [(ro eReader 3 v1.fReaders)]) rfl)) ?_
    refine cq rfl rfl rfl (opLenR (il57 H) (mv rfl)) ?_
    refine cq rfl rfl rfl (opLss (mv rfl) (mv rfl)) ?_
    refine rn (al [1, 3, 4, 16] [0] rfl rfl rfl (sq ?_))
    refine CodeT.cond (decide (v32 < (v1.fReaders.length : Int))) (evBool (mv rfl)) (fun c34 => ?_) (fun c34 => ?_)
    · rw [if_pos c34] at h
      refine CodeT.skip ?_
      refine al [1, 3, 4] [0] rfl rfl rfl ?_
      refine sq (cs ?_)
      refine CodeT.block ?_
      refine cs (cr [0, 1, 2, 3, 4, 5, 6] rfl ?_)
      refine cq rfl rfl rfl (opFieldP (fo61_2 H) (mv rfl)) ?_
      refine cq rfl rfl rfl (opLoad1 (tl57 H) ((Pt.box 0 (mv rfl) rfl rfl).take 1 (cs' := [(ro eReader 3 v1.fReaders)]) rfl)) ?_
      refine cq rfl rfl rfl (opMove (mv rfl)) ?_
      refine ckE h fun h35 h => ?_
      refine cq rfl rfl rfl (opIndexR (e := eReader) (y := (gt v1.fReaders v32)) (ix57 H) (mv rfl) (mv rfl) (h35).1 (gt_some h35)) ?_
      refine RunOps.cons_q (agg (eReader (gt v1.fReaders v32))) rfl rfl rfl (opLoadN (tl75 H) (Pt.rop (mv rfl))) ?_
      refine RunOps.cons rfl rfl rfl (opAlloc [.int .i64 0, .int .i64 0, .int .i64 0] (ze75 H) rfl fun b36 => ?_)
      refine RunOps.cons rfl rfl rfl (opStore 1 (cells := [(iv .i64 0), (iv .i64 0), (iv .i64 0)]) (cs := (eReader (gt v1.fReaders v32))) (out := (eReader (gt v1.fReaders v32))) (tl75 H) (mv rfl) (Ce.agg (mv rfl)) rfl rfl (Nat.le_of_ble_eq_true rfl) rfl ?_)
      refine rn (al [1, 3, 4, 5] [0, 1] rfl rfl rfl (sq (cs (cr [0, 1, 2, 3, 4, 5, 6, 7, 8, 9, 10, 11, 12, 13, 14, 15, 16, 17, 18, 19, 20, 21, 22] rfl ?_))))
      refine cq rfl rfl rfl (opFieldP (fo75_0 H) (mv rfl)) ?_
      refine cq rfl rfl rfl (opLoad1 (tl3 H) ((Pt.box 1 (mv rfl) rfl rfl).take 1 (cs' := [(iv .i64 ((gt v1.fReaders v32).fPlace))]) rfl)) ?_
      refine cq rfl rfl rfl (opMove (mv rfl)) ?_
      refine cq rfl rfl rfl (opSub (mv rfl) (Ev.const _)) ?_
      refine bindE h fun y37 ey37 h => ?_
      refine cq rfl rfl rfl (opCallQ (fnok30 H) (args := [(iv .i64 ((gt v1.fReaders v32).fPlace)), (iv .i64 0), (iv .i64 (W ((v1.fNetwork.fPlaces.length : Int) - 1)))]) ⟨EvF.of (mv rfl) FEnt.refl, EvF.of (Ev.const _) FEnt.refl, EvF.of (mv rfl) FEnt.refl, trivial⟩ (ref09_within_ok H φ ((gt v1.fReaders v32).fPlace) 0 (W ((v1.fNetwork.fPlaces.length : Int) - 1)) _ ey37) flat_eqv) ?_
      refine cq rfl rfl rfl (opNot (mv rfl)) ?_
      refine cq rfl rfl rfl (opMove (mv rfl)) ?_
      refine cg rfl rfl rfl rfl rfl (fun g38 => opFieldP (fo75_1 H) (mv rfl)) ?_
      refine cg rfl rfl rfl rfl rfl (fun g39 => opLoad1 (tl3 H) ((Pt.box 1 (Ev.cnd (mv rfl) g39) rfl rfl).take 1 (cs' := [(iv .i64 ((gt v1.fReaders v32).fLow))]) rfl)) ?_
      refine cg rfl rfl rfl rfl rfl (fun g40 => opLss (Ev.cnd (mv rfl) g40) (Ev.const _)) ?_
      refine cq rfl rfl rfl (opOr (mv rfl) (Ev.const _) (fun g41 => (Ev.cnd (mv rfl) g41))) ?_
      refine cq rfl rfl rfl (opMove (mv rfl)) ?_
      refine cg rfl rfl rfl rfl rfl (fun g42 => opFieldP (fo75_2 H) (mv rfl)) ?_
      refine cg rfl rfl rfl rfl rfl (fun g43 => opLoad1 (tl3 H) ((Pt.box 1 (Ev.cnd (mv rfl) g43) rfl rfl).take 1 (cs' := [(iv .i64 ((gt v1.fReaders v32).fHigh))]) rfl)) ?_
      refine cg rfl rfl rfl rfl rfl (fun g44 => opFieldP (fo75_1 H) (mv rfl)) ?_
      refine cg rfl rfl rfl rfl rfl (fun g45 => opLoad1 (tl3 H) ((Pt.box 1 (Ev.cnd (mv rfl) g45) rfl rfl).take 1 (cs' := [(iv .i64 ((gt v1.fReaders v32).fLow))]) rfl)) ?_
      refine cg rfl rfl rfl rfl rfl (fun g46 => opLss (Ev.cnd (mv rfl) g46) (Ev.cnd (mv rfl) g46)) ?_
      refine cq rfl rfl rfl (opOr (mv rfl) (Ev.const _) (fun g47 => (Ev.cnd (mv rfl) g47))) ?_
      refine cq rfl rfl rfl (opMove (mv rfl)) ?_
      refine cg rfl rfl rfl rfl rfl (fun g48 => opFieldP (fo75_2 H) (mv rfl)) ?_
      refine cg rfl rfl rfl rfl rfl (fun g49 => opLoad1 (tl3 H) ((Pt.box 1 (Ev.cnd (mv rfl) g49) rfl rfl).take 1 (cs' := [(iv .i64 ((gt v1.fReaders v32).fHigh))]) rfl)) ?_
      refine cg rfl rfl rfl rfl rfl (fun g50 => opGtr (Ev.cnd (mv rfl) g50) (Ev.const _)) ?_
      refine cq rfl rfl rfl (opOr (mv rfl) (Ev.const _) (fun g51 => (Ev.cnd (mv rfl) g51))) ?_
      refine rn (al [1, 3, 4, 46] [0] rfl rfl rfl (sq ?_))
      refine CodeT.cond ((((!y37) || decide ((gt v1.fReaders v32).fLow < (-1000))) || decide ((gt v1.fReaders v32).fHigh < (gt v1.fReaders v32).fLow)) || decide (1000 < (gt v1.fReaders v32).fHigh)) (evBool (mv rfl)) (fun c52 => ?_) (fun c52 => ?_)
      · rw [if_pos c52] at h
        refine cs (cr [0] rfl ?_)
        refine cq rfl rfl rfl (opAssign (Ev.const _)) ?_
        refine rn (al [2] [] rfl rfl rfl (sq ?_))
        refine CodeT.ret ?_
        refine AtX.in_ret ?_
        refine AtX.then_ret ?_
        refine AtX.then_ret ?_
        refine AtX.in_ret ?_
        refine AtX.then_ret ?_
        refine AtX.ret' (bv false) (ResOK.one Try.results41 rfl) [] [] trivial rfl ?_
        obtain rfl := Option.some.inj h
        exact ⟨rfl, rfl⟩
      · rw [if_neg (bne_true c52)] at h
        refine CodeT.skip ?_
        refine AtX.in_normal ?_
        refine al [1, 3, 4] [0] rfl rfl rfl ?_
        refine sq (cr [0, 1, 2] rfl ?_)
        refine cq rfl rfl rfl (opMove (mv rfl)) ?_
        refine cq rfl rfl rfl (opAdd (mv rfl) (Ev.const _)) ?_
        refine cq rfl rfl rfl (opAssign (mv rfl)) ?_
        refine rn ?_
        exact AtX.to (ih33 (W (v32 + 1)) h) [0] (sl rfl) (ol rfl) rfl
    · rw [if_neg (bne_true c34)] at h
      refine CodeT.exit ?_
      refine AtX.then_exit ?_
      refine AtX.then_exit ?_
      refine AtX.in_hit ?_
      exact AtX.to (hJ3 () h) [0] (sl rfl) (ol rfl) rfl
theorem ref09_roads_ok {P : Program} (H : P = Try.prog) (φ : Nat) (v1 : Pool) (r : (Bool)) (h : ref09_roads φ v1 = some r) : PureT P 42 [(agg (ePool v1))] (fun x news => x = (bv r) ∧ news = []) := by
  unfold ref09_roads at h
  refine PureT.of_code' 51 (fn42 H) rfl rfl (Nat.le_of_ble_eq_true rfl) fun w0 base r0 wI => ?_
  refine cl [0] [] rfl rfl rfl ?_
  refine cs (cr [0, 1] rfl ?_)
  refine RunOps.cons rfl rfl rfl (opBox (cs := (ePool v1)) (Ce.agg (mv rfl)) fun b2 => ?_)
  refine cq rfl rfl rfl (opAssign (Ev.const _)) ?_
  refine rn (al [1] [0] rfl rfl rfl (sq (cs (cr [0, 1, 2, 3] rfl ?_))))
  refine cq rfl rfl rfl (opFieldP (fo61_4 H) (mv rfl)) ?_
  refine cq rfl rfl rfl (opLoad1 (tl59 H) ((Pt.box 0 (mv rfl) rfl rfl).take 1 (cs' := [(ro eRailwayInfo 16 v1.fRailways)]) rfl)) ?_
  refine cq rfl rfl rfl (opLenR (il59 H) (mv rfl)) ?_
  refine cq rfl rfl rfl (opAssign (mv rfl)) ?_
  refine rn (al [1, 3] [0] rfl rfl rfl (sq (cs (cs (cr [0] rfl ?_)))))
  refine cq rfl rfl rfl (opAssign (Ev.const _)) ?_
  refine rn (al [1, 3, 4] [0] rfl rfl rfl (sq ?_))
  refine CodeT.join (fun z : Unit => (ref09_roads_j3 φ v1)) r (fun z => ⟨Slots.of [(1, (eqv (.pointer (some ⟨b2, 0, none⟩)))), (3, (iv .i64 (v1.fRailways.length : Int)))], [(box b2 61 (ePool v1))]⟩) (fun z h => ?_) (fun hJ3 => ?_)
  · replace h : (ref09_roads_j3 φ v1) = some r := h
    unfold ref09_roads_j3 at h
    refine al [1, 3] [0] rfl rfl rfl ?_
    refine sq (cs (cs (cr [0] rfl ?_)))
    refine cq rfl rfl rfl (opAssign (Ev.const _)) ?_
    refine rn (al [1, 3, 6] [0] rfl rfl rfl (sq ?_))
    refine CodeT.join (fun z : Unit => (ref09_roads_j4 φ)) r (fun z => ⟨Slots.of [], []⟩) (fun z h => ?_) (fun hJ4 => ?_)
    · replace h : (ref09_roads_j4 φ) = some r := h
      unfold ref09_roads_j4 at h
      refine al [] [] rfl rfl rfl ?_
      refine sq (cs (cr [0] rfl ?_))
      refine cq rfl rfl rfl (opAssign (Ev.const _)) ?_
      refine rn (al [2] [] rfl rfl rfl (sq ?_))
      refine CodeT.ret ?_
      refine AtX.ret' (bv true) (ResOK.one Try.results42 rfl) [] [] trivial rfl ?_
      obtain rfl := Option.some.inj h
      exact ⟨rfl, rfl⟩
    · refine CodeT.block ?_
      refine CodeT.to (CodeT.loop (fun n (z : Int) => ref09_roads_L6 φ v1 (ref09_roads_j4 φ) n z) r (fun z => ⟨Slots.of [(1, (eqv (.pointer (some ⟨b2, 0, none⟩)))), (3, (iv .i64 (v1.fRailways.length : Int))), (6, (iv .i64 z))], [(box b2 61 (ePool v1))]⟩) (fun z => rfl) (fun n6 v5 ih6 h => ?_) φ 0 h) [0] (sl rfl) (ol rfl) rfl
      replace h : ref09_roads_L6 φ v1 (ref09_roads_j4 φ) (n6 + 1) v5 = some r := h
      rw [ref09_roads_L6] at h
      refine cs (cs (cr [0, 1, 2, 3, 4, 5] rfl ?_))
      refine cq rfl rfl rfl (opMove (mv rfl)) ?_
      refine cq rfl rfl rfl (opFieldP (fo61_0 H) (mv rfl)) ?_
      refine cq rfl rfl rfl (opFieldP (fo56_1 H) (mv rfl)) ?_
      refine cq rfl rfl rfl (opLoad1 (tl54 H) ((Pt.box 0 (mv rfl) rfl rfl).take 1 (cs' := [(ro eEdge 5 v1.fNetwork.fEdges)]) rfl)) ?_
      refine cq rfl rfl rfl (opLenR (il54 H) (mv rfl)) ?_
      refine cq rfl rfl rfl (opLss (mv rfl) (mv rfl)) ?_
      refine rn (al [1, 3, 6, 39] [0] rfl rfl rfl (sq ?_))
      refine CodeT.cond (decide (v5 < (v1.fNetwork.fEdges.length : Int))) (evBool (mv rfl)) (fun c7 => ?_) (fun c7 => ?_)
      · rw [if_pos c7] at h
        refine CodeT.skip ?_
        refine al [1, 3, 6] [0] rfl rfl rfl ?_
        refine sq (cs ?_)
        refine CodeT.block ?_
        refine cs (cr [0, 1, 2, 3, 4, 5, 6, 7, 8] rfl ?_)
        refine cq rfl rfl rfl (opFieldP (fo61_0 H) (mv rfl)) ?_
        refine cq rfl rfl rfl (opFieldP (fo56_1 H) (mv rfl)) ?_
        refine cq rfl rfl rfl (opLoad1 (tl54 H) ((Pt.box 0 (mv rfl) rfl rfl).take 1 (cs' := [(ro eEdge 5 v1.fNetwork.fEdges)]) rfl)) ?_
        refine cq rfl rfl rfl (opMove (mv rfl)) ?_
        refine ckE h fun h8 h => ?_
        refine cq rfl rfl rfl (opIndexR (e := eEdge) (y := (gt v1.fNetwork.fEdges v5)) (ix54 H) (mv rfl) (mv rfl) (h8).1 (gt_some h8)) ?_
        refine cq rfl rfl rfl (opFieldRT (fo98_2 H) (mv rfl) (cs' := [(iv .i64 ((gt v1.fNetwork.fEdges v5).fRailway))]) 1 rfl) ?_
        refine cq rfl rfl rfl (opLoad1 (tl3 H) (Pt.rop (mv rfl))) ?_
        refine cq rfl rfl rfl (opMove (mv rfl)) ?_
        refine cq rfl rfl rfl (opGeq (mv rfl) (mv rfl)) ?_
        refine rn (al [1, 3, 6, 50] [0] rfl rfl rfl (sq ?_))
        refine CodeT.cond (decide ((v1.fRailways.length : Int) ≤ (gt v1.fNetwork.fEdges v5).fRailway)) (evBool (mv rfl)) (fun c9 => ?_) (fun c9 => ?_)
        · rw [if_pos c9] at h
          refine cs (cr [0] rfl ?_)
          refine cq rfl rfl rfl (opAssign (Ev.const _)) ?_
          refine rn (al [2] [] rfl rfl rfl (sq ?_))
          refine CodeT.ret ?_
          refine AtX.in_ret ?_
          refine AtX.then_ret ?_
          refine AtX.then_ret ?_
          refine AtX.in_ret ?_
          refine AtX.then_ret ?_
          refine AtX.ret' (bv false) (ResOK.one Try.results42 rfl) [] [] trivial rfl ?_
          obtain rfl := Option.some.inj h
          exact ⟨rfl, rfl⟩
        · rw [if_neg (bne_true c9)] at h
          refine CodeT.skip ?_
          refine AtX.in_normal ?_
          refine al [1, 3, 6] [0] rfl rfl rfl ?_
          refine sq (cr [0, 1, 2] rfl ?_)
          refine cq rfl rfl rfl (opMove (mv rfl)) ?_
          refine cq rfl rfl rfl (opAdd (mv rfl) (Ev.const _)) ?_
          refine cq rfl rfl rfl (opAssign (mv rfl)) ?_
          refine rn ?_
          exact AtX.to (ih6 (W (v5 + 1)) h) [0] (sl rfl) (ol rfl) rfl
      · rw [if_neg (bne_true c7)] at h
        refine CodeT.exit ?_
        refine AtX.then_exit ?_
        refine AtX.then_exit ?_
        refine AtX.in_hit ?_
        exact AtX.to (hJ4 () h) [] trivial trivial rfl
  · refine CodeT.block ?_
    refine CodeT.to (CodeT.loop (fun n (z : Int) => ref09_roads_L11 φ v1 (ref09_roads_j3 φ v1) n z) r (fun z => ⟨Slots.of [(1, (eqv (.pointer (some ⟨b2, 0, none⟩)))), (3, (iv .i64 (v1.fRailways.length : Int))), (4, (iv .i64 z))], [(box b2 61 (ePool v1))]⟩) (fun z => rfl) (fun n11 v10 ih11 h => ?_) φ 0 h) [0] (sl rfl) (ol rfl) rfl
    replace h : ref09_roads_L11 φ v1 (ref09_roads_j3 φ v1) (n11 + 1) v10 = some r := h
    rw [ref09_roads_L11] at h
    refine cs (cs (cr [0, 1, 2, 3, 4, 5] rfl ?_))
    refine cq rfl rfl rfl (opMove (mv rfl)) ?_
    refine cq rfl rfl rfl (opFieldP (fo61_0 H) (mv rfl)) ?_
    refine cq rfl rfl rfl (opFieldP (fo56_0 H) (mv rfl)) ?_
    refine cq rfl rfl rfl (opLoad1 (tl53 H) ((Pt.box 0 (mv rfl) rfl rfl).take 1 (cs' := [(ro ePlace 3 v1.fNetwork.fPlaces)]) rfl)) ?_
    refine cq rfl rfl rfl (opLenR (il53 H) (mv rfl)) ?_
    refine cq rfl rfl rfl (opLss (mv rfl) (mv rfl)) ?_
    refine rn (al [1, 3, 4, 15] [0] rfl rfl rfl (sq ?_))
    refine CodeT.cond (decide (v10 < (v1.fNetwork.fPlaces.length : Int))) (evBool (mv rfl)) (fun c12 => ?_) (fun c12 => ?_)
    · rw [if_pos c12] at h
      refine CodeT.skip ?_
      refine al [1, 3, 4] [0] rfl rfl rfl ?_
      refine sq (cs ?_)
      refine CodeT.block ?_
      refine cs (cr [0, 1, 2, 3, 4, 5, 6, 7] rfl ?_)
      refine cq rfl rfl rfl (opFieldP (fo61_0 H) (mv rfl)) ?_
      refine cq rfl rfl rfl (opFieldP (fo56_0 H) (mv rfl)) ?_
      refine cq rfl rfl rfl (opLoad1 (tl53 H) ((Pt.box 0 (mv rfl) rfl rfl).take 1 (cs' := [(ro ePlace 3 v1.fNetwork.fPlaces)]) rfl)) ?_
      refine cq rfl rfl rfl (opMove (mv rfl)) ?_
      refine ckE h fun h13 h => ?_
      refine cq rfl rfl rfl (opIndexR (e := ePlace) (y := (gt v1.fNetwork.fPlaces v10)) (ix53 H) (mv rfl) (mv rfl) (h13).1 (gt_some h13)) ?_
      refine RunOps.cons_q (agg (ePlace (gt v1.fNetwork.fPlaces v10))) rfl rfl rfl (opLoadN (tl77 H) (Pt.rop (mv rfl))) ?_
      refine RunOps.cons rfl rfl rfl (opAlloc [.int .i64 0, .int .i64 0, .int .i64 0] (ze77 H) rfl fun b14 => ?_)
      refine RunOps.cons rfl rfl rfl (opStore 1 (cells := [(iv .i64 0), (iv .i64 0), (iv .i64 0)]) (cs := (ePlace (gt v1.fNetwork.fPlaces v10))) (out := (ePlace (gt v1.fNetwork.fPlaces v10))) (tl77 H) (mv rfl) (Ce.agg (mv rfl)) rfl rfl (Nat.le_of_ble_eq_true rfl) rfl ?_)
      refine rn (al [1, 3, 4, 5] [0, 1] rfl rfl rfl (sq (cs (cr [0, 1, 2, 3, 4, 5, 6, 7, 8, 9] rfl ?_))))
      refine cq rfl rfl rfl (opFieldP (fo77_1 H) (mv rfl)) ?_
      refine cq rfl rfl rfl (opLoad1 (tl3 H) ((Pt.box 1 (mv rfl) rfl rfl).take 1 (cs' := [(iv .i64 ((gt v1.fNetwork.fPlaces v10).fRailway))]) rfl)) ?_
      refine cq rfl rfl rfl (opMove (mv rfl)) ?_
      refine cq rfl rfl rfl (opGeq (mv rfl) (mv rfl)) ?_
      refine cq rfl rfl rfl (opMove (mv rfl)) ?_
      refine cg rfl rfl rfl rfl rfl (fun g15 => opFieldP (fo77_2 H) (mv rfl)) ?_
      refine cg rfl rfl rfl rfl rfl (fun g16 => opLoad1 (tl3 H) ((Pt.box 1 (Ev.cnd (mv rfl) g16) rfl rfl).take 1 (cs' := [(iv .i64 ((gt v1.fNetwork.fPlaces v10).fOther))]) rfl)) ?_
      refine cg rfl rfl rfl rfl rfl (fun g17 => opMove (mv rfl)) ?_
      refine cg rfl rfl rfl rfl rfl (fun g18 => opGeq (Ev.cnd (mv rfl) g18) (Ev.cnd (mv rfl) g18)) ?_
      refine cq rfl rfl rfl (opOr (mv rfl) (Ev.const _) (fun g19 => (Ev.cnd (mv rfl) g19))) ?_
      refine rn (al [1, 3, 4, 33] [0] rfl rfl rfl (sq ?_))
      refine CodeT.cond (decide ((v1.fRailways.length : Int) ≤ (gt v1.fNetwork.fPlaces v10).fRailway) || decide ((v1.fRailways.length : Int) ≤ (gt v1.fNetwork.fPlaces v10).fOther)) (evBool (mv rfl)) (fun c20 => ?_) (fun c20 => ?_)
      · rw [if_pos c20] at h
        refine cs (cr [0] rfl ?_)
        refine cq rfl rfl rfl (opAssign (Ev.const _)) ?_
        refine rn (al [2] [] rfl rfl rfl (sq ?_))
        refine CodeT.ret ?_
        refine AtX.in_ret ?_
        refine AtX.then_ret ?_
        refine AtX.then_ret ?_
        refine AtX.in_ret ?_
        refine AtX.then_ret ?_
        refine AtX.ret' (bv false) (ResOK.one Try.results42 rfl) [] [] trivial rfl ?_
        obtain rfl := Option.some.inj h
        exact ⟨rfl, rfl⟩
      · rw [if_neg (bne_true c20)] at h
        refine CodeT.skip ?_
        refine AtX.in_normal ?_
        refine al [1, 3, 4] [0] rfl rfl rfl ?_
        refine sq (cr [0, 1, 2] rfl ?_)
        refine cq rfl rfl rfl (opMove (mv rfl)) ?_
        refine cq rfl rfl rfl (opAdd (mv rfl) (Ev.const _)) ?_
        refine cq rfl rfl rfl (opAssign (mv rfl)) ?_
        refine rn ?_
        exact AtX.to (ih11 (W (v10 + 1)) h) [0] (sl rfl) (ol rfl) rfl
    · rw [if_neg (bne_true c12)] at h
      refine CodeT.exit ?_
      refine AtX.then_exit ?_
      refine AtX.then_exit ?_
      refine AtX.in_hit ?_
      exact AtX.to (hJ3 () h) [0] (sl rfl) (ol rfl) rfl
theorem ref09_CheckPool_ok {P : Program} (H : P = Try.prog) (φ : Nat) (v1 : Pool) (r : (Int)) (h : ref09_CheckPool φ v1 = some r) : PureT P 24 [(agg (ePool v1))] (fun x news => x = (iv .i64 r) ∧ news = []) := by
  unfold ref09_CheckPool at h
  refine PureT.of_code' 70 (fn24 H) rfl rfl (Nat.le_of_ble_eq_true rfl) fun w0 base r0 wI => ?_
  refine cl [0] [] rfl rfl rfl ?_
  refine cs (cr [0, 1] rfl ?_)
  refine RunOps.cons rfl rfl rfl (opBox (cs := (ePool v1)) (Ce.agg (mv rfl)) fun b2 => ?_)
  refine cq rfl rfl rfl (opAssign (Ev.const _)) ?_
  refine rn (al [1] [0] rfl rfl rfl (sq (cs (cr [0, 1, 2, 3] rfl ?_))))
  refine cq rfl rfl rfl (opFieldP (fo61_0 H) (mv rfl)) ?_
  refine RunOps.cons_q (agg (eNetwork v1.fNetwork)) rfl rfl rfl (opLoadN (tl56 H) ((Pt.box 0 (mv rfl) rfl rfl).take 2 (cs' := (eNetwork v1.fNetwork)) rfl)) ?_
  refine bindE h fun y3 ey3 h => ?_
  refine cq rfl rfl rfl (opCallQ (fnok40 H) (args := [(agg (eNetwork v1.fNetwork))]) ⟨EvF.of (mv rfl) FEnt.refl, trivial⟩ (ref08_Check_ok H φ v1.fNetwork _ ey3) flat_eqv) ?_
  refine cq rfl rfl rfl (opAssign (mv rfl)) ?_
  refine rn (al [1, 3] [0] rfl rfl rfl (sq (cs (cs (cr [0, 1] rfl ?_)))))
  refine cq rfl rfl rfl (opMove (mv rfl)) ?_
  refine cq rfl rfl rfl (opNeq (mv rfl) (Ev.const _)) ?_
  refine rn (al [1, 3, 9] [0] rfl rfl rfl (sq ?_))
  refine CodeT.cond (y3 != 0) (evBool (mv rfl)) (fun c4 => ?_) (fun c4 => ?_)
  · rw [if_pos c4] at h
    refine cs (cr [0, 1] rfl ?_)
    refine cq rfl rfl rfl (opMove (mv rfl)) ?_
    refine cq rfl rfl rfl (opAssign (mv rfl)) ?_
    refine rn (al [2] [] rfl rfl rfl (sq ?_))
    refine CodeT.ret ?_
    refine AtX.then_ret ?_
    refine AtX.ret' (iv .i64 y3) (ResOK.one Try.results24 rfl) [] [] trivial rfl ?_
    obtain rfl := Option.some.inj h
    exact ⟨rfl, rfl⟩
  · rw [if_neg (bne_true c4)] at h
    refine CodeT.skip ?_
    refine al [1] [0] rfl rfl rfl ?_
    refine sq (cs (cr [0, 1, 2, 3] rfl ?_))
    refine cq rfl rfl rfl (opFieldP (fo61_1 H) (mv rfl)) ?_
    refine RunOps.cons_q (agg (eFleet v1.fFleet)) rfl rfl rfl (opLoadN (tl27 H) ((Pt.box 0 (mv rfl) rfl rfl).take 4 (cs' := (eFleet v1.fFleet)) rfl)) ?_
    refine bindE h fun y5 ey5 h => ?_
    refine cq rfl rfl rfl (opCallQ (fnok19 H) (args := [(agg (eFleet v1.fFleet))]) ⟨EvF.of (mv rfl) FEnt.refl, trivial⟩ (ref09_Check_ok H φ v1.fFleet _ ey5) flat_eqv) ?_
    refine cq rfl rfl rfl (opAssign (mv rfl)) ?_
    refine rn (al [1, 3] [0] rfl rfl rfl (sq (cs (cs (cr [0, 1] rfl ?_)))))
    refine cq rfl rfl rfl (opMove (mv rfl)) ?_
    refine cq rfl rfl rfl (opNeq (mv rfl) (Ev.const _)) ?_
    refine rn (al [1, 3, 15] [0] rfl rfl rfl (sq ?_))
    refine CodeT.cond (y5 != 0) (evBool (mv rfl)) (fun c6 => ?_) (fun c6 => ?_)
    · rw [if_pos c6] at h
      refine cs (cr [0, 1] rfl ?_)
      refine cq rfl rfl rfl (opMove (mv rfl)) ?_
      refine cq rfl rfl rfl (opAssign (mv rfl)) ?_
      refine rn (al [2] [] rfl rfl rfl (sq ?_))
      refine CodeT.ret ?_
      refine AtX.then_ret ?_
      refine AtX.ret' (iv .i64 y5) (ResOK.one Try.results24 rfl) [] [] trivial rfl ?_
      obtain rfl := Option.some.inj h
      exact ⟨rfl, rfl⟩
    · rw [if_neg (bne_true c6)] at h
      refine CodeT.skip ?_
      refine al [1] [0] rfl rfl rfl ?_
      refine sq (cs (cs (cr [0, 1, 2, 3, 4, 5, 6, 7, 8, 9, 10, 11, 12, 13, 14, 15] rfl ?_)))
      refine cq rfl rfl rfl (opFieldP (fo61_2 H) (mv rfl)) ?_
      refine cq rfl rfl rfl (opLoad1 (tl57 H) ((Pt.box 0 (mv rfl) rfl rfl).take 1 (cs' := [(ro eReader 3 v1.fReaders)]) rfl)) ?_
      refine cq rfl rfl rfl (opLenR (il57 H) (mv rfl)) ?_
      refine cq rfl rfl rfl (opGtr (mv rfl) (Ev.const _)) ?_
      refine cq rfl rfl rfl (opMove (mv rfl)) ?_
      refine cg rfl rfl rfl rfl rfl (fun g7 => opFieldP (fo61_3 H) (mv rfl)) ?_
      refine cg rfl rfl rfl rfl rfl (fun g8 => opLoad1 (tl58 H) ((Pt.box 0 (Ev.cnd (mv rfl) g8) rfl rfl).take 1 (cs' := [(ro eShipper 1 v1.fShippers)]) rfl)) ?_
      refine cg rfl rfl rfl rfl rfl (fun g9 => opLenR (il58 H) (Ev.cnd (mv rfl) g9)) ?_
      refine cg rfl rfl rfl rfl rfl (fun g10 => opGtr (Ev.cnd (mv rfl) g10) (Ev.const _)) ?_
      refine cq rfl rfl rfl (opOr (mv rfl) (Ev.const _) (fun g11 => (Ev.cnd (mv rfl) g11))) ?_
      refine cq rfl rfl rfl (opMove (mv rfl)) ?_
      refine cg rfl rfl rfl rfl rfl (fun g12 => opFieldP (fo61_4 H) (mv rfl)) ?_
      refine cg rfl rfl rfl rfl rfl (fun g13 => opLoad1 (tl59 H) ((Pt.box 0 (Ev.cnd (mv rfl) g13) rfl rfl).take 1 (cs' := [(ro eRailwayInfo 16 v1.fRailways)]) rfl)) ?_
      refine cg rfl rfl rfl rfl rfl (fun g14 => opLenR (il59 H) (Ev.cnd (mv rfl) g14)) ?_
      refine cg rfl rfl rfl rfl rfl (fun g15 => opGtr (Ev.cnd (mv rfl) g15) (Ev.const _)) ?_
      refine cq rfl rfl rfl (opOr (mv rfl) (Ev.const _) (fun g16 => (Ev.cnd (mv rfl) g16))) ?_
      refine rn (al [1, 32] [0] rfl rfl rfl (sq ?_))
      refine CodeT.cond ((decide (256 < (v1.fReaders.length : Int)) || decide (256 < (v1.fShippers.length : Int))) || decide (16 < (v1.fRailways.length : Int))) (evBool (mv rfl)) (fun c17 => ?_) (fun c17 => ?_)
      · rw [if_pos c17] at h
        refine cs (cr [0] rfl ?_)
        refine cq rfl rfl rfl (opAssign (Ev.const _)) ?_
        refine rn (al [2] [] rfl rfl rfl (sq ?_))
        refine CodeT.ret ?_
        refine AtX.then_ret ?_
        refine AtX.ret' (iv .i64 2) (ResOK.one Try.results24 rfl) [] [] trivial rfl ?_
        obtain rfl := Option.some.inj h
        exact ⟨rfl, rfl⟩
      · rw [if_neg (bne_true c17)] at h
        refine CodeT.skip ?_
        refine al [1] [0] rfl rfl rfl ?_
        refine sq (cs (cs (cr [0, 1, 2, 3, 4, 5, 6, 7] rfl ?_)))
        refine RunOps.cons_q (agg (ePool v1)) rfl rfl rfl (opLoadN (tl61 H) ((Pt.box 0 (mv rfl) rfl rfl).take 9 (cs' := (ePool v1)) rfl)) ?_
        refine bindE h fun y18 ey18 h => ?_
        refine cq rfl rfl rfl (opCallQ (fnok41 H) (args := [(agg [(ro ePlace 3 ((Pool.mk v1.fNetwork v1.fFleet v1.fReaders v1.fShippers v1.fRailways).fNetwork.fPlaces)), (ro eEdge 5 ((Pool.mk v1.fNetwork v1.fFleet v1.fReaders v1.fShippers v1.fRailways).fNetwork.fEdges)), (ro eWagonType 8 ((Pool.mk v1.fNetwork v1.fFleet v1.fReaders v1.fShippers v1.fRailways).fFleet.fTypes)), (ro eWagon 5 ((Pool.mk v1.fNetwork v1.fFleet v1.fReaders v1.fShippers v1.fRailways).fFleet.fWagons)), (ro eSwap 3 ((Pool.mk v1.fNetwork v1.fFleet v1.fReaders v1.fShippers v1.fRailways).fFleet.fSwaps)), (ro eWash 3 ((Pool.mk v1.fNetwork v1.fFleet v1.fReaders v1.fShippers v1.fRailways).fFleet.fWashes)), (ro eReader 3 ((Pool.mk v1.fNetwork v1.fFleet v1.fReaders v1.fShippers v1.fRailways).fReaders)), (ro eShipper 1 ((Pool.mk v1.fNetwork v1.fFleet v1.fReaders v1.fShippers v1.fRailways).fShippers)), (ro eRailwayInfo 16 ((Pool.mk v1.fNetwork v1.fFleet v1.fReaders v1.fShippers v1.fRailways).fRailways))])]) ⟨EvF.of (mv rfl) FEnt.refl, trivial⟩ (ref09_ends_ok H φ (Pool.mk v1.fNetwork v1.fFleet v1.fReaders v1.fShippers v1.fRailways) _ ey18) flat_eqv) ?_
        refine cq rfl rfl rfl (opNot (mv rfl)) ?_
        refine cq rfl rfl rfl (opMove (mv rfl)) ?_
        refine cg (x := (agg (ePool v1))) rfl rfl rfl rfl rfl (fun g19 => opLoadN (tl61 H) ((Pt.box 0 (mv rfl) rfl rfl).take 9 (cs' := (ePool v1)) rfl)) ?_
        refine bindE h fun y21 ey21 h => ?_
        refine cg rfl rfl rfl rfl rfl (fun g20 => opCallQ (fnok42 H) (args := [(agg [(ro ePlace 3 ((Pool.mk v1.fNetwork v1.fFleet v1.fReaders v1.fShippers v1.fRailways).fNetwork.fPlaces)), (ro eEdge 5 ((Pool.mk v1.fNetwork v1.fFleet v1.fReaders v1.fShippers v1.fRailways).fNetwork.fEdges)), (ro eWagonType 8 ((Pool.mk v1.fNetwork v1.fFleet v1.fReaders v1.fShippers v1.fRailways).fFleet.fTypes)), (ro eWagon 5 ((Pool.mk v1.fNetwork v1.fFleet v1.fReaders v1.fShippers v1.fRailways).fFleet.fWagons)), (ro eSwap 3 ((Pool.mk v1.fNetwork v1.fFleet v1.fReaders v1.fShippers v1.fRailways).fFleet.fSwaps)), (ro eWash 3 ((Pool.mk v1.fNetwork v1.fFleet v1.fReaders v1.fShippers v1.fRailways).fFleet.fWashes)), (ro eReader 3 ((Pool.mk v1.fNetwork v1.fFleet v1.fReaders v1.fShippers v1.fRailways).fReaders)), (ro eShipper 1 ((Pool.mk v1.fNetwork v1.fFleet v1.fReaders v1.fShippers v1.fRailways).fShippers)), (ro eRailwayInfo 16 ((Pool.mk v1.fNetwork v1.fFleet v1.fReaders v1.fShippers v1.fRailways).fRailways))])]) ⟨EvF.of (Ev.cnd (mv rfl) g20) FEnt.refl, trivial⟩ (ref09_roads_ok H φ (Pool.mk v1.fNetwork v1.fFleet v1.fReaders v1.fShippers v1.fRailways) _ (gcall_pos ey21 g20)) flat_eqv) ?_
        refine cg rfl rfl rfl rfl rfl (fun g22 => opNot (Ev.cnd (mv rfl) g22)) ?_
        refine cq rfl rfl rfl (opOr (mv rfl) (Ev.const _) (fun g23 => (Ev.cnd (mv rfl) g23))) ?_
        refine rn (al [1, 40] [0] rfl rfl rfl (sq ?_))
        refine CodeT.cond ((!y18) || (!y21)) (evBool (mv rfl)) (fun c24 => ?_) (fun c24 => ?_)
        · rw [if_pos c24] at h
          refine cs (cr [0] rfl ?_)
          refine cq rfl rfl rfl (opAssign (Ev.const _)) ?_
          refine rn (al [2] [] rfl rfl rfl (sq ?_))
          refine CodeT.ret ?_
          refine AtX.then_ret ?_
          refine AtX.ret' (iv .i64 1) (ResOK.one Try.results24 rfl) [] [] trivial rfl ?_
          obtain rfl := Option.some.inj h
          exact ⟨rfl, rfl⟩
        · rw [if_neg (bne_true c24)] at h
          refine CodeT.skip ?_
          refine al [1] [0] rfl rfl rfl ?_
          refine sq (cs (cs (cr [0] rfl ?_)))
          refine cq rfl rfl rfl (opAssign (Ev.const _)) ?_
          refine rn (al [1, 4] [0] rfl rfl rfl (sq ?_))
          refine CodeT.join (fun z : Unit => (ref09_CheckPool_j25 φ v1)) r (fun z => ⟨Slots.of [(1, (eqv (.pointer (some ⟨b2, 0, none⟩))))], [(box b2 61 (ePool v1))]⟩) (fun z h => ?_) (fun hJ25 => ?_)
          · replace h : (ref09_CheckPool_j25 φ v1) = some r := h
            unfold ref09_CheckPool_j25 at h
            refine al [1] [0] rfl rfl rfl ?_
            refine sq (cs (cs (cr [0, 1, 2, 3] rfl ?_)))
            refine cq rfl rfl rfl (opFieldP (fo61_4 H) (mv rfl)) ?_
            refine cq rfl rfl rfl (opLoad1 (tl59 H) ((Pt.box 0 (mv rfl) rfl rfl).take 1 (cs' := [(ro eRailwayInfo 16 v1.fRailways)]) rfl)) ?_
            refine cq rfl rfl rfl (opLenR (il59 H) (mv rfl)) ?_
            refine cq rfl rfl rfl (opEql (mv rfl) (Ev.const _)) ?_
            refine rn (al [69] [] rfl rfl rfl (sq ?_))
            refine CodeT.cond ((v1.fRailways.length : Int) == 0) (evBool (mv rfl)) (fun c26 => ?_) (fun c26 => ?_)
            · rw [if_pos c26] at h
              refine cs (cr [0] rfl ?_)
              refine cq rfl rfl rfl (opAssign (Ev.const _)) ?_
              refine rn (al [2] [] rfl rfl rfl (sq ?_))
              refine CodeT.ret ?_
              refine AtX.then_ret ?_
              refine AtX.ret' (iv .i64 1) (ResOK.one Try.results24 rfl) [] [] trivial rfl ?_
              obtain rfl := Option.some.inj h
              exact ⟨rfl, rfl⟩
            · rw [if_neg (bne_true c26)] at h
              refine CodeT.skip ?_
              refine al [] [] rfl rfl rfl ?_
              refine sq (cs (cr [0] rfl ?_))
              refine cq rfl rfl rfl (opAssign (Ev.const _)) ?_
              refine rn (al [2] [] rfl rfl rfl (sq ?_))
              refine CodeT.ret ?_
              refine AtX.ret' (iv .i64 0) (ResOK.one Try.results24 rfl) [] [] trivial rfl ?_
              obtain rfl := Option.some.inj h
              exact ⟨rfl, rfl⟩
          · refine CodeT.block ?_
            refine CodeT.to (CodeT.loop (fun n (z : Int) => ref09_CheckPool_L28 φ v1 (ref09_CheckPool_j25 φ v1) n z) r (fun z => ⟨Slots.of [(1, (eqv (.pointer (some ⟨b2, 0, none⟩)))), (4, (iv .i64 z))], [(box b2 61 (ePool v1))]⟩) (fun z => rfl) (fun n28 v27 ih28 h => ?_) φ 0 h) [0] (sl rfl) (ol rfl) rfl
            replace h : ref09_CheckPool_L28 φ v1 (ref09_CheckPool_j25 φ v1) (n28 + 1) v27 = some r := h
            rw [ref09_CheckPool_L28] at h
            refine cs (cs (cr [0, 1, 2, 3, 4] rfl ?_))
            refine cq rfl rfl rfl (opMove (mv rfl)) ?_
            refine cq rfl rfl rfl (opFieldP (fo61_4 H) (mv rfl)) ?_
            refine cq rfl rfl rfl (opLoad1 (tl59 H) ((Pt.box 0 (mv rfl) rfl rfl).take 1 (cs' := [(ro eRailwayInfo 16 v1.fRailways)]) rfl)) ?_
            refine cq rfl rfl rfl (opLenR (il59 H) (mv rfl)) ?_
            refine cq rfl rfl rfl (opLss (mv rfl) (mv rfl)) ?_
            refine rn (al [1, 4, 45] [0] rfl rfl rfl (sq ?_))
            refine CodeT.cond (decide (v27 < (v1.fRailways.length : Int))) (evBool (mv rfl)) (fun c29 => ?_) (fun c29 => ?_)
            · rw [if_pos c29] at h
              refine CodeT.skip ?_
              refine al [1, 4] [0] rfl rfl rfl ?_
              refine sq (cs ?_)
              refine CodeT.block ?_
              refine cs (cr [0, 1, 2, 3, 4, 5, 6, 7, 8, 9, 10, 11, 12, 13, 14, 15, 16, 17] rfl ?_)
              refine cq rfl rfl rfl (opFieldP (fo61_4 H) (mv rfl)) ?_
              refine cq rfl rfl rfl (opLoad1 (tl59 H) ((Pt.box 0 (mv rfl) rfl rfl).take 1 (cs' := [(ro eRailwayInfo 16 v1.fRailways)]) rfl)) ?_
              refine cq rfl rfl rfl (opMove (mv rfl)) ?_
              refine ckE h fun h30 h => ?_
              refine cq rfl rfl rfl (opIndexR (e := eRailwayInfo) (y := (gt v1.fRailways v27)) (ix59 H) (mv rfl) (mv rfl) (h30).1 (gt_some h30)) ?_
              refine cq rfl rfl rfl (opFieldRT (fo68_1 H) (mv rfl) (cs' := (eCalendar (gt v1.fRailways v27).fCalendar)) 15 rfl) ?_
              refine cq rfl rfl rfl (opLoadN' (tl66 H) (by simp [arr_len lSpan, eCalendar]) (Pt.rop (mv rfl))) ?_
              refine bindE h fun y31 ey31 h => ?_
              refine cq rfl rfl rfl (opCallQ (fnok43 H) (args := [(agg (eCalendar ((gt v1.fRailways v27).fCalendar)))]) ⟨EvF.of (mv rfl) FEnt.refl, trivial⟩ (ref06_Check_ok H φ ((gt v1.fRailways v27).fCalendar) _ ey31) flat_eqv) ?_
              refine cq rfl rfl rfl (opNeq (mv rfl) (Ev.const _)) ?_
              refine cq rfl rfl rfl (opMove (mv rfl)) ?_
              refine cg rfl rfl rfl rfl rfl (fun g32 => opFieldP (fo61_4 H) (mv rfl)) ?_
              refine cg rfl rfl rfl rfl rfl (fun g33 => opLoad1 (tl59 H) ((Pt.box 0 (Ev.cnd (mv rfl) g33) rfl rfl).take 1 (cs' := [(ro eRailwayInfo 16 v1.fRailways)]) rfl)) ?_
              refine cg rfl rfl rfl rfl rfl (fun g34 => opMove (mv rfl)) ?_
              refine cg rfl rfl rfl rfl rfl (fun g35 => opIndexR (e := eRailwayInfo) (y := (gt v1.fRailways v27)) (ix59 H) (Ev.cnd (mv rfl) g35) (Ev.cnd (mv rfl) g35) (h30).1 (gt_some h30)) ?_
              refine cg rfl rfl rfl rfl rfl (fun g36 => opFieldRT (fo68_0 H) (Ev.cnd (mv rfl) g36) (cs' := [(iv .u64 ((gt v1.fRailways v27).fKey))]) 1 rfl) ?_
              refine cg rfl rfl rfl rfl rfl (fun g37 => opLoad1 (tl48 H) (Pt.rop (Ev.cnd (mv rfl) g37))) ?_
              refine bindE h fun y39 ey39 h => ?_
              refine cg rfl rfl rfl rfl rfl (fun g38 => opCallQ (fnok44 H) (args := [(iv .u64 ((gt v1.fRailways v27).fKey))]) ⟨EvF.of (Ev.cnd (mv rfl) g38) FEnt.refl, trivial⟩ (ref03_Valid_ok H φ ((gt v1.fRailways v27).fKey) _ (gcall_pos ey39 g38)) flat_eqv) ?_
              refine cg rfl rfl rfl rfl rfl (fun g40 => opNot (Ev.cnd (mv rfl) g40)) ?_
              refine cq rfl rfl rfl (opOr (mv rfl) (Ev.const _) (fun g41 => (Ev.cnd (mv rfl) g41))) ?_
              refine rn (al [1, 4, 65] [0] rfl rfl rfl (sq ?_))
              refine CodeT.cond ((y31 != 0) || (!y39)) (evBool (mv rfl)) (fun c42 => ?_) (fun c42 => ?_)
              · rw [if_pos c42] at h
                refine cs (cr [0] rfl ?_)
                refine cq rfl rfl rfl (opAssign (Ev.const _)) ?_
                refine rn (al [2] [] rfl rfl rfl (sq ?_))
                refine CodeT.ret ?_
                refine AtX.in_ret ?_
                refine AtX.then_ret ?_
                refine AtX.then_ret ?_
                refine AtX.in_ret ?_
                refine AtX.then_ret ?_
                refine AtX.ret' (iv .i64 1) (ResOK.one Try.results24 rfl) [] [] trivial rfl ?_
                obtain rfl := Option.some.inj h
                exact ⟨rfl, rfl⟩
              · rw [if_neg (bne_true c42)] at h
                refine CodeT.skip ?_
                refine AtX.in_normal ?_
                refine al [1, 4] [0] rfl rfl rfl ?_
                refine sq (cr [0, 1, 2] rfl ?_)
                refine cq rfl rfl rfl (opMove (mv rfl)) ?_
                refine cq rfl rfl rfl (opAdd (mv rfl) (Ev.const _)) ?_
                refine cq rfl rfl rfl (opAssign (mv rfl)) ?_
                refine rn ?_
                exact AtX.to (ih28 (W (v27 + 1)) h) [0] (sl rfl) (ol rfl) rfl
            · rw [if_neg (bne_true c29)] at h
              refine CodeT.exit ?_
              refine AtX.then_exit ?_
              refine AtX.then_exit ?_
              refine AtX.in_hit ?_
              exact AtX.to (hJ25 () h) [0] (sl rfl) (ol rfl) rfl
theorem law09_few_ok {P : Program} (H : P = Try.prog) (φ : Nat) (v1 : Fleet) (r : (Bool)) (h : law09_few φ v1 = some r) : PureT P 11 [(agg (eFleet v1))] (fun x news => x = (bv r) ∧ news = []) := by
  unfold law09_few at h
  refine PureT.of_code' 41 (fn11 H) rfl rfl (Nat.le_of_ble_eq_true rfl) fun w0 base r0 wI => ?_
  refine cl [0] [] rfl rfl rfl ?_
  refine cs (cr [0, 1] rfl ?_)
  refine RunOps.cons rfl rfl rfl (opBox (cs := (eFleet v1)) (Ce.agg (mv rfl)) fun b2 => ?_)
  refine cq rfl rfl rfl (opAssign (Ev.const _)) ?_
  refine rn (al [1] [0] rfl rfl rfl (sq (cs (cs (cr [0, 1, 2, 3, 4, 5, 6, 7, 8, 9, 10, 11, 12, 13, 14, 15, 16, 17, 18, 19, 20, 21] rfl ?_)))))
  refine cq rfl rfl rfl (opFieldP (fo27_0 H) (mv rfl)) ?_
  refine cq rfl rfl rfl (opLoad1 (tl22 H) ((Pt.box 0 (mv rfl) rfl rfl).take 1 (cs' := [(ro eWagonType 8 v1.fTypes)]) rfl)) ?_
  refine cq rfl rfl rfl (opLenR (il22 H) (mv rfl)) ?_
  refine cq rfl rfl rfl (opGtr (mv rfl) (Ev.const _)) ?_
  refine cq rfl rfl rfl (opMove (mv rfl)) ?_
  refine cg rfl rfl rfl rfl rfl (fun g3 => opFieldP (fo27_1 H) (mv rfl)) ?_
  refine cg rfl rfl rfl rfl rfl (fun g4 => opLoad1 (tl23 H) ((Pt.box 0 (Ev.cnd (mv rfl) g4) rfl rfl).take 1 (cs' := [(ro eWagon 5 v1.fWagons)]) rfl)) ?_
  refine cg rfl rfl rfl rfl rfl (fun g5 => opLenR (il23 H) (Ev.cnd (mv rfl) g5)) ?_
  refine cg rfl rfl rfl rfl rfl (fun g6 => opGtr (Ev.cnd (mv rfl) g6) (Ev.const _)) ?_
  refine cq rfl rfl rfl (opOr (mv rfl) (Ev.const _) (fun g7 => (Ev.cnd (mv rfl) g7))) ?_
  refine cq rfl rfl rfl (opMove (mv rfl)) ?_
  refine cg rfl rfl rfl rfl rfl (fun g8 => opFieldP (fo27_2 H) (mv rfl)) ?_
  refine cg rfl rfl rfl rfl rfl (fun g9 => opLoad1 (tl24 H) ((Pt.box 0 (Ev.cnd (mv rfl) g9) rfl rfl).take 1 (cs' := [(ro eSwap 3 v1.fSwaps)]) rfl)) ?_
  refine cg rfl rfl rfl rfl rfl (fun g10 => opLenR (il24 H) (Ev.cnd (mv rfl) g10)) ?_
  refine cg rfl rfl rfl rfl rfl (fun g11 => opGtr (Ev.cnd (mv rfl) g11) (Ev.const _)) ?_
  refine cq rfl rfl rfl (opOr (mv rfl) (Ev.const _) (fun g12 => (Ev.cnd (mv rfl) g12))) ?_
  refine cq rfl rfl rfl (opMove (mv rfl)) ?_
  refine cg rfl rfl rfl rfl rfl (fun g13 => opFieldP (fo27_3 H) (mv rfl)) ?_
  refine cg rfl rfl rfl rfl rfl (fun g14 => opLoad1 (tl25 H) ((Pt.box 0 (Ev.cnd (mv rfl) g14) rfl rfl).take 1 (cs' := [(ro eWash 3 v1.fWashes)]) rfl)) ?_
  refine cg rfl rfl rfl rfl rfl (fun g15 => opLenR (il25 H) (Ev.cnd (mv rfl) g15)) ?_
  refine cg rfl rfl rfl rfl rfl (fun g16 => opGtr (Ev.cnd (mv rfl) g16) (Ev.const _)) ?_
  refine cq rfl rfl rfl (opOr (mv rfl) (Ev.const _) (fun g17 => (Ev.cnd (mv rfl) g17))) ?_
  refine rn (al [1, 24] [0] rfl rfl rfl (sq ?_))
  refine CodeT.cond (((decide (32 < (v1.fTypes.length : Int)) || decide (4096 < (v1.fWagons.length : Int))) || decide (1024 < (v1.fSwaps.length : Int))) || decide (4096 < (v1.fWashes.length : Int))) (evBool (mv rfl)) (fun c18 => ?_) (fun c18 => ?_)
  · rw [if_pos c18] at h
    refine cs (cr [0] rfl ?_)
    refine cq rfl rfl rfl (opAssign (Ev.const _)) ?_
    refine rn (al [2] [] rfl rfl rfl (sq ?_))
    refine CodeT.ret ?_
    refine AtX.then_ret ?_
    refine AtX.ret' (bv true) (ResOK.one Try.results11 rfl) [] [] trivial rfl ?_
    obtain rfl := Option.some.inj h
    exact ⟨rfl, rfl⟩
  · rw [if_neg (bne_true c18)] at h
    refine CodeT.skip ?_
    refine al [1] [0] rfl rfl rfl ?_
    refine sq (cs (cr [0, 1, 2, 3, 4, 5, 6, 7, 8, 9, 10, 11, 12, 13, 14, 15, 16] rfl ?_))
    refine cq rfl rfl rfl (opFieldP (fo27_1 H) (mv rfl)) ?_
    refine cq rfl rfl rfl (opLoad1 (tl23 H) ((Pt.box 0 (mv rfl) rfl rfl).take 1 (cs' := [(ro eWagon 5 v1.fWagons)]) rfl)) ?_
    refine cq rfl rfl rfl (opLenR (il23 H) (mv rfl)) ?_
    refine cq rfl rfl rfl (opLeq (mv rfl) (Ev.const _)) ?_
    refine cq rfl rfl rfl (opMove (mv rfl)) ?_
    refine cg rfl rfl rfl rfl rfl (fun g19 => opFieldP (fo27_2 H) (mv rfl)) ?_
    refine cg rfl rfl rfl rfl rfl (fun g20 => opLoad1 (tl24 H) ((Pt.box 0 (Ev.cnd (mv rfl) g20) rfl rfl).take 1 (cs' := [(ro eSwap 3 v1.fSwaps)]) rfl)) ?_
    refine cg rfl rfl rfl rfl rfl (fun g21 => opLenR (il24 H) (Ev.cnd (mv rfl) g21)) ?_
    refine cg rfl rfl rfl rfl rfl (fun g22 => opLeq (Ev.cnd (mv rfl) g22) (Ev.const _)) ?_
    refine cq rfl rfl rfl (opAnd (mv rfl) (fun g23 => (Ev.cnd (mv rfl) g23)) (Ev.const _)) ?_
    refine cq rfl rfl rfl (opMove (mv rfl)) ?_
    refine cg rfl rfl rfl rfl rfl (fun g24 => opFieldP (fo27_3 H) (mv rfl)) ?_
    refine cg rfl rfl rfl rfl rfl (fun g25 => opLoad1 (tl25 H) ((Pt.box 0 (Ev.cnd (mv rfl) g25) rfl rfl).take 1 (cs' := [(ro eWash 3 v1.fWashes)]) rfl)) ?_
    refine cg rfl rfl rfl rfl rfl (fun g26 => opLenR (il25 H) (Ev.cnd (mv rfl) g26)) ?_
    refine cg rfl rfl rfl rfl rfl (fun g27 => opLeq (Ev.cnd (mv rfl) g27) (Ev.const _)) ?_
    refine cq rfl rfl rfl (opAnd (mv rfl) (fun g28 => (Ev.cnd (mv rfl) g28)) (Ev.const _)) ?_
    refine cq rfl rfl rfl (opAssign (mv rfl)) ?_
    refine rn (al [2] [] rfl rfl rfl (sq ?_))
    refine CodeT.ret ?_
    refine AtX.ret' (bv ((decide ((v1.fWagons.length : Int) ≤ 64) && decide ((v1.fSwaps.length : Int) ≤ 200)) && decide ((v1.fWashes.length : Int) ≤ 200))) (ResOK.one Try.results11 rfl) [] [] trivial rfl ?_
    obtain rfl := Option.some.inj h
    exact ⟨rfl, rfl⟩
end Px
