/- The functions compute what was read out of them. Conditions: none. -/
import Derived.Test.YtbfoamlmlbmmnaaQa
import Derived.Test.YtbfoamlmlbmmnaaPm
set_option linter.unusedVariables false
set_option linter.unusedSimpArgs false
set_option maxHeartbeats 4000000
set_option maxRecDepth 100000
namespace Px
open Go Go.RowKit Go.Proofs
theorem fleet_between_ok {P : Program} (H : P = Try.prog) (φ : Nat) (v1 : Int) (v2 : Int) (v3 : Int) (r : (Bool)) (h : fleet_between φ v1 v2 v3 = some r) : PureT P 29 [(iv .i64 v1), (iv .i64 v2), (iv .i64 v3)] (fun x news => x = (bv r) ∧ news = []) := by
  unfold fleet_between at h
  refine PureT.of_code' 15 (fn29 H) rfl rfl (Nat.le_of_ble_eq_true rfl) fun w0 base r0 wI => ?_
  refine cl [0, 1, 2] [] rfl rfl rfl ?_
  refine cs (cr [0] rfl ?_)
  refine cq rfl rfl rfl (opAssign (Ev.const _)) ?_
  refine rn (al [0, 1, 2] [] rfl rfl rfl (sq (cs (cr [0, 1, 2, 3, 4, 5, 6, 7, 8] rfl ?_))))
  refine cq rfl rfl rfl (opMove (mv rfl)) ?_
  refine cq rfl rfl rfl (opMove (mv rfl)) ?_
  refine cq rfl rfl rfl (opGeq (mv rfl) (mv rfl)) ?_
  refine cq rfl rfl rfl (opMove (mv rfl)) ?_
  refine cg rfl rfl rfl rfl rfl (fun g4 => opMove (mv rfl)) ?_
  refine cg rfl rfl rfl rfl rfl (fun g5 => opMove (mv rfl)) ?_
  refine cg rfl rfl rfl rfl rfl (fun g6 => opLeq (Ev.cnd (mv rfl) g6) (Ev.cnd (mv rfl) g6)) ?_
  refine cq rfl rfl rfl (opAnd (mv rfl) (fun g7 => (Ev.cnd (mv rfl) g7)) (Ev.const _)) ?_
  refine cq rfl rfl rfl (opAssign (mv rfl)) ?_
  refine rn (al [6] [] rfl rfl rfl (sq ?_))
  refine CodeT.ret ?_
  refine AtX.ret' (bv (decide (v2 ≤ v1) && decide (v1 ≤ v3))) (ResOK.one Try.results29 rfl) [] [] trivial rfl ?_
  obtain rfl := Option.some.inj h
  exact ⟨rfl, rfl⟩
theorem ref09_within_ok {P : Program} (H : P = Try.prog) (φ : Nat) (v1 : Int) (v2 : Int) (v3 : Int) (r : (Bool)) (h : ref09_within φ v1 v2 v3 = some r) : PureT P 30 [(iv .i64 v1), (iv .i64 v2), (iv .i64 v3)] (fun x news => x = (bv r) ∧ news = []) := by
  unfold ref09_within at h
  refine PureT.of_code' 15 (fn30 H) rfl rfl (Nat.le_of_ble_eq_true rfl) fun w0 base r0 wI => ?_
  refine cl [0, 1, 2] [] rfl rfl rfl ?_
  refine cs (cr [0] rfl ?_)
  refine cq rfl rfl rfl (opAssign (Ev.const _)) ?_
  refine rn (al [0, 1, 2] [] rfl rfl rfl (sq (cs (cr [0, 1, 2, 3, 4, 5, 6, 7, 8] rfl ?_))))
  refine cq rfl rfl rfl (opMove (mv rfl)) ?_
  refine cq rfl rfl rfl (opMove (mv rfl)) ?_
  refine cq rfl rfl rfl (opGeq (mv rfl) (mv rfl)) ?_
  refine cq rfl rfl rfl (opMove (mv rfl)) ?_
  refine cg rfl rfl rfl rfl rfl (fun g4 => opMove (mv rfl)) ?_
  refine cg rfl rfl rfl rfl rfl (fun g5 => opMove (mv rfl)) ?_
  refine cg rfl rfl rfl rfl rfl (fun g6 => opLeq (Ev.cnd (mv rfl) g6) (Ev.cnd (mv rfl) g6)) ?_
  refine cq rfl rfl rfl (opAnd (mv rfl) (fun g7 => (Ev.cnd (mv rfl) g7)) (Ev.const _)) ?_
  refine cq rfl rfl rfl (opAssign (mv rfl)) ?_
  refine rn (al [6] [] rfl rfl rfl (sq ?_))
  refine CodeT.ret ?_
  refine AtX.ret' (bv (decide (v2 ≤ v1) && decide (v1 ≤ v3))) (ResOK.one Try.results30 rfl) [] [] trivial rfl ?_
  obtain rfl := Option.some.inj h
  exact ⟨rfl, rfl⟩
theorem money_in_ok {P : Program} (H : P = Try.prog) (φ : Nat) (v1 : (List Int)) (r : (Bool)) (h : money_in φ v1 = some r) : PureT P 47 [(ro eI64 1 v1)] (fun x news => x = (bv r) ∧ news = []) := by
  unfold money_in at h
  refine PureT.of_code' 18 (fn47 H) rfl rfl (Nat.le_of_ble_eq_true rfl) fun w0 base r0 wI => ?_
  refine cl [0] [] rfl rfl rfl ?_
  refine cs (cr [0] rfl ?_)
  refine cq rfl rfl rfl (opAssign (Ev.const _)) ?_
  refine rn (al [0] [] rfl rfl rfl (sq (cs (cs (cr [0, 1, 2] rfl ?_)))))
  refine cq rfl rfl rfl (opMove (mv rfl)) ?_
  refine cq rfl rfl rfl (opLenR (il41 H) (mv rfl)) ?_
  refine cq rfl rfl rfl (opMove (Ev.const _)) ?_
  refine rn (al [5, 6, 7] [] rfl rfl rfl (sq ?_))
  refine CodeT.join (fun z : Unit => (money_in_j2 φ)) r (fun z => ⟨Slots.of [], []⟩) (fun z h => ?_) (fun hJ2 => ?_)
  · replace h : (money_in_j2 φ) = some r := h
    unfold money_in_j2 at h
    refine al [] [] rfl rfl rfl ?_
    refine sq (cs (cr [0] rfl ?_))
    refine cq rfl rfl rfl (opAssign (Ev.const _)) ?_
    refine rn (al [2] [] rfl rfl rfl (sq ?_))
    refine CodeT.ret ?_
    refine AtX.ret' (bv true) (ResOK.one Try.results47 rfl) [] [] trivial rfl ?_
    obtain rfl := Option.some.inj h
    exact ⟨rfl, rfl⟩
  · refine CodeT.block ?_
    refine CodeT.to (CodeT.loop (fun n (z : Int) => money_in_L4 φ v1 (money_in_j2 φ) n z) r (fun z => ⟨Slots.of [(5, (ro eI64 1 v1)), (6, (iv .i64 (v1.length : Int))), (7, (iv .i64 z))], []⟩) (fun z => rfl) (fun n4 v3 ih4 h => ?_) φ 0 h) [] (sl rfl) trivial rfl
    replace h : money_in_L4 φ v1 (money_in_j2 φ) (n4 + 1) v3 = some r := h
    rw [money_in_L4] at h
    refine cs (cr [0] rfl ?_)
    refine cq rfl rfl rfl (opLss (mv rfl) (mv rfl)) ?_
    refine rn (al [5, 6, 7, 8] [] rfl rfl rfl (sq (cs ?_)))
    refine CodeT.cond (decide (v3 < (v1.length : Int))) (evBool (mv rfl)) (fun c5 => ?_) (fun c5 => ?_)
    · rw [if_pos c5] at h
      refine CodeT.skip ?_
      refine al [5, 6, 7] [] rfl rfl rfl ?_
      refine sq (cs ?_)
      refine CodeT.block ?_
      refine cs (cr [0, 1, 2] rfl ?_)
      refine ckE h fun h6 h => ?_
      refine cq rfl rfl rfl (opIndexR (e := eI64) (y := (gt v1 v3)) (ix41 H) (mv rfl) (mv rfl) (h6).1 (gt_some h6)) ?_
      refine cq rfl rfl rfl (opLoad1 (tl3 H) (Pt.rop (mv rfl))) ?_
      refine cq rfl rfl rfl (opAssign (mv rfl)) ?_
      refine rn (al [4, 5, 6, 7] [] rfl rfl rfl (sq (cs (cr [0, 1, 2, 3, 4, 5] rfl ?_))))
      refine cq rfl rfl rfl (opMove (mv rfl)) ?_
      refine cq rfl rfl rfl (opLss (mv rfl) (Ev.const _)) ?_
      refine cq rfl rfl rfl (opMove (mv rfl)) ?_
      refine cg rfl rfl rfl rfl rfl (fun g7 => opMove (mv rfl)) ?_
      refine cg rfl rfl rfl rfl rfl (fun g8 => opGtr (Ev.cnd (mv rfl) g8) (Ev.const _)) ?_
      refine cq rfl rfl rfl (opOr (mv rfl) (Ev.const _) (fun g9 => (Ev.cnd (mv rfl) g9))) ?_
      refine rn (al [5, 6, 7, 16] [] rfl rfl rfl (sq ?_))
      refine CodeT.cond (decide ((gt v1 v3) < (-9007199254740992)) || decide (9007199254740992 < (gt v1 v3))) (evBool (mv rfl)) (fun c10 => ?_) (fun c10 => ?_)
      · rw [if_pos c10] at h
        refine cs (cr [0] rfl ?_)
        refine cq rfl rfl rfl (opAssign (Ev.const _)) ?_
        refine rn (al [2] [] rfl rfl rfl (sq ?_))
        refine CodeT.ret ?_
        refine AtX.in_ret ?_
        refine AtX.then_ret ?_
        refine AtX.then_ret ?_
        refine AtX.in_ret ?_
        refine AtX.then_ret ?_
        refine AtX.ret' (bv false) (ResOK.one Try.results47 rfl) [] [] trivial rfl ?_
        obtain rfl := Option.some.inj h
        exact ⟨rfl, rfl⟩
      · rw [if_neg (bne_true c10)] at h
        refine CodeT.skip ?_
        refine AtX.in_normal ?_
        refine al [5, 6, 7] [] rfl rfl rfl ?_
        refine sq (cr [0, 1] rfl ?_)
        refine cq rfl rfl rfl (opAdd (mv rfl) (Ev.const _)) ?_
        refine cq rfl rfl rfl (opMove (mv rfl)) ?_
        refine rn ?_
        exact AtX.to (ih4 (W (v3 + 1)) h) [] (sl rfl) trivial rfl
    · rw [if_neg (bne_true c5)] at h
      refine CodeT.exit ?_
      refine AtX.then_exit ?_
      refine AtX.then_exit ?_
      refine AtX.in_hit ?_
      exact AtX.to (hJ2 () h) [] trivial trivial rfl
theorem bits_Len64_ok {P : Program} (H : P = Try.prog) (φ : Nat) (v1 : Int) (r : (Int)) (h : bits_Len64 φ v1 = some r) : PureT P 56 [(iv .u64 v1)] (fun x news => x = (iv .i64 r) ∧ news = []) := by
  unfold bits_Len64 at h
  refine PureT.of_code' 25 (fn56 H) rfl rfl (Nat.le_of_ble_eq_true rfl) fun w0 base r0 wI => ?_
  refine cl [0] [] rfl rfl rfl ?_
  refine cs (cr [0] rfl ?_)
  refine cq rfl rfl rfl (opAssign (Ev.const _)) ?_
  refine rn (al [0, 2] [] rfl rfl rfl (sq (cs (cs (cr [0, 1] rfl ?_)))))
  refine cq rfl rfl rfl (opMove (mv rfl)) ?_
  refine cq rfl rfl rfl (opGeq (mv rfl) (Ev.const _)) ?_
  refine rn (al [0, 2, 4] [] rfl rfl rfl (sq ?_))
  refine CodeT.join (fun z : Int × Int => (bits_Len64_j4 φ) z.1 z.2) r (fun z => ⟨Slots.of [(0, (iv .u64 z.1)), (2, (iv .i64 z.2))], []⟩) (fun z h => ?_) (fun hJ4 => ?_)
  · obtain ⟨v2, v3⟩ := z
    replace h : (bits_Len64_j4 φ) v2 v3 = some r := h
    unfold bits_Len64_j4 at h
    refine al [0, 2] [] rfl rfl rfl ?_
    refine sq (cs (cs (cr [0, 1] rfl ?_)))
    refine cq rfl rfl rfl (opMove (mv rfl)) ?_
    refine cq rfl rfl rfl (opGeq (mv rfl) (Ev.const _)) ?_
    refine rn (al [0, 2, 8] [] rfl rfl rfl (sq ?_))
    refine CodeT.join (fun z : Int × Int => (bits_Len64_j7 φ) z.1 z.2) r (fun z => ⟨Slots.of [(0, (iv .u64 z.1)), (2, (iv .i64 z.2))], []⟩) (fun z h => ?_) (fun hJ7 => ?_)
    · obtain ⟨v5, v6⟩ := z
      replace h : (bits_Len64_j7 φ) v5 v6 = some r := h
      unfold bits_Len64_j7 at h
      refine al [0, 2] [] rfl rfl rfl ?_
      refine sq (cs (cs (cr [0, 1] rfl ?_)))
      refine cq rfl rfl rfl (opMove (mv rfl)) ?_
      refine cq rfl rfl rfl (opGeq (mv rfl) (Ev.const _)) ?_
      refine rn (al [0, 2, 14] [] rfl rfl rfl (sq ?_))
      refine CodeT.join (fun z : Int × Int => (bits_Len64_j10 φ) z.1 z.2) r (fun z => ⟨Slots.of [(0, (iv .u64 z.1)), (2, (iv .i64 z.2))], []⟩) (fun z h => ?_) (fun hJ10 => ?_)
      · obtain ⟨v8, v9⟩ := z
        replace h : (bits_Len64_j10 φ) v8 v9 = some r := h
        unfold bits_Len64_j10 at h
        refine al [0, 2] [] rfl rfl rfl ?_
        refine sq (cs (cr [0, 1, 2, 3, 4, 5, 6] rfl ?_))
        refine cq rfl rfl rfl (opMove (mv rfl)) ?_
        refine cq rfl rfl rfl (opMove (mv rfl)) ?_
        refine cq rfl rfl rfl (opConv (us48 H) (un5 H) (mv rfl)) ?_
        refine ckE h fun h11 h => ?_
        refine RunOps.cons_q (iv .u8 (byteAt str_c0 (IntKind.wrap .u8 (v8)))) rfl rfl rfl (opIndexS (un9 H) (n := 256) (Ev.eq (Ev.const _) (congrArg Value.string (by kernel_rfl))) (mv rfl) rfl (h11).1 (h11).2) ?_
        refine cq rfl rfl rfl (opConv (us5 H) (un3 H) (mv rfl)) ?_
        refine cq rfl rfl rfl (opAdd (mv rfl) (mv rfl)) ?_
        refine cq rfl rfl rfl (opAssign (mv rfl)) ?_
        refine rn (al [2] [] rfl rfl rfl (sq ?_))
        refine CodeT.ret ?_
        refine AtX.ret' (iv .i64 (W (v9 + (W ((byteAt str_c0 (IntKind.wrap .u8 (v8)))))))) (ResOK.one Try.results56 rfl) [] [] trivial rfl ?_
        obtain rfl := Option.some.inj h
        exact ⟨rfl, rfl⟩
      · refine CodeT.cond (decide (256 ≤ v5)) (evBool (mv rfl)) (fun c12 => ?_) (fun c12 => ?_)
        · rw [if_pos c12] at h
          refine cs (cr [0, 1, 2] rfl ?_)
          refine cq rfl rfl rfl (opMove (mv rfl)) ?_
          refine cq rfl rfl rfl (opShrC 256 (by decide) (mv rfl) (Ev.const _) (by decide)) ?_
          refine cq rfl rfl rfl (opAssign (mv rfl)) ?_
          refine rn (al [0, 2] [] rfl rfl rfl (sq (cr [0, 1, 2] rfl ?_)))
          refine cq rfl rfl rfl (opMove (mv rfl)) ?_
          refine cq rfl rfl rfl (opAdd (mv rfl) (Ev.const _)) ?_
          refine cq rfl rfl rfl (opAssign (mv rfl)) ?_
          refine rn ?_
          exact AtX.to (hJ10 ((v5.fdiv 256), (W (v6 + 8))) h) [] (sl rfl) trivial rfl
        · rw [if_neg (bne_true c12)] at h
          refine CodeT.skip ?_
          exact AtX.to (hJ10 (v5, v6) h) [] (sl rfl) trivial rfl
    · refine CodeT.cond (decide (65536 ≤ v2)) (evBool (mv rfl)) (fun c13 => ?_) (fun c13 => ?_)
      · rw [if_pos c13] at h
        refine cs (cr [0, 1, 2] rfl ?_)
        refine cq rfl rfl rfl (opMove (mv rfl)) ?_
        refine cq rfl rfl rfl (opShrC 65536 (by decide) (mv rfl) (Ev.const _) (by decide)) ?_
        refine cq rfl rfl rfl (opAssign (mv rfl)) ?_
        refine rn (al [0, 2] [] rfl rfl rfl (sq (cr [0, 1, 2] rfl ?_)))
        refine cq rfl rfl rfl (opMove (mv rfl)) ?_
        refine cq rfl rfl rfl (opAdd (mv rfl) (Ev.const _)) ?_
        refine cq rfl rfl rfl (opAssign (mv rfl)) ?_
        refine rn ?_
        exact AtX.to (hJ7 ((v2.fdiv 65536), (W (v3 + 16))) h) [] (sl rfl) trivial rfl
      · rw [if_neg (bne_true c13)] at h
        refine CodeT.skip ?_
        exact AtX.to (hJ7 (v2, v3) h) [] (sl rfl) trivial rfl
  · refine CodeT.cond (decide (4294967296 ≤ v1)) (evBool (mv rfl)) (fun c14 => ?_) (fun c14 => ?_)
    · rw [if_pos c14] at h
      refine cs (cr [0, 1, 2] rfl ?_)
      refine cq rfl rfl rfl (opMove (mv rfl)) ?_
      refine cq rfl rfl rfl (opShrC 4294967296 (by decide) (mv rfl) (Ev.const _) (by decide)) ?_
      refine cq rfl rfl rfl (opAssign (mv rfl)) ?_
      refine rn (al [0] [] rfl rfl rfl (sq (cr [0] rfl ?_)))
      refine cq rfl rfl rfl (opAssign (Ev.const _)) ?_
      refine rn ?_
      exact AtX.to (hJ4 ((v1.fdiv 4294967296), 32) h) [] (sl rfl) trivial rfl
    · rw [if_neg (bne_true c14)] at h
      refine CodeT.skip ?_
      exact AtX.to (hJ4 (v1, 0) h) [] (sl rfl) trivial rfl
theorem bits_LeadingZeros64_ok {P : Program} (H : P = Try.prog) (φ : Nat) (v1 : Int) (r : (Int)) (h : bits_LeadingZeros64 φ v1 = some r) : PureT P 57 [(iv .u64 v1)] (fun x news => x = (iv .i64 r) ∧ news = []) := by
  unfold bits_LeadingZeros64 at h
  refine PureT.of_code' 6 (fn57 H) rfl rfl (Nat.le_of_ble_eq_true rfl) fun w0 base r0 wI => ?_
  refine cl [0] [] rfl rfl rfl ?_
  refine cs (cr [0] rfl ?_)
  refine cq rfl rfl rfl (opAssign (Ev.const _)) ?_
  refine rn (al [0] [] rfl rfl rfl (sq (cs (cr [0, 1, 2, 3] rfl ?_))))
  refine cq rfl rfl rfl (opMove (mv rfl)) ?_
  refine bindE h fun y2 ey2 h => ?_
  refine cq rfl rfl rfl (opCallQ (fnok56 H) (args := [(iv .u64 v1)]) ⟨EvF.of (mv rfl) FEnt.refl, trivial⟩ (bits_Len64_ok H φ v1 _ ey2) flat_eqv) ?_
  refine cq rfl rfl rfl (opSub (Ev.const _) (mv rfl)) ?_
  refine cq rfl rfl rfl (opAssign (mv rfl)) ?_
  refine rn (al [2] [] rfl rfl rfl (sq ?_))
  refine CodeT.ret ?_
  refine AtX.ret' (iv .i64 (W (64 - y2))) (ResOK.one Try.results57 rfl) [] [] trivial rfl ?_
  obtain rfl := Option.some.inj h
  exact ⟨rfl, rfl⟩
theorem bits_Mul64_ok {P : Program} (H : P = Try.prog) (φ : Nat) (v1 : Int) (v2 : Int) (r : (Int × Int)) (h : bits_Mul64 φ v1 v2 = some r) : PureT P 48 [(iv .u64 v1), (iv .u64 v2)] (fun x news => x = tupv [(iv .u64 r.1), (iv .u64 r.2)] ∧ news = []) := by
  unfold bits_Mul64 at h
  refine PureT.of_code' 51 (fn48 H) rfl rfl (Nat.le_of_ble_eq_true rfl) fun w0 base r0 wI => ?_
  refine cl [0, 1] [] rfl rfl rfl ?_
  refine cs (cr [0, 1] rfl ?_)
  refine cq rfl rfl rfl (opAssign (Ev.const _)) ?_
  refine cq rfl rfl rfl (opAssign (Ev.const _)) ?_
  refine rn (al [0, 1] [] rfl rfl rfl (sq (cs (cr [0, 1, 2] rfl ?_))))
  refine cq rfl rfl rfl (opMove (mv rfl)) ?_
  refine cq rfl rfl rfl (opBand (mv rfl) (Ev.const _)) ?_
  refine cq rfl rfl rfl (opAssign (mv rfl)) ?_
  refine rn (al [0, 1, 6] [] rfl rfl rfl (sq (cs (cr [0, 1, 2] rfl ?_))))
  refine cq rfl rfl rfl (opMove (mv rfl)) ?_
  refine cq rfl rfl rfl (opShrC 4294967296 (by decide) (mv rfl) (Ev.const _) (by decide)) ?_
  refine cq rfl rfl rfl (opAssign (mv rfl)) ?_
  refine rn (al [0, 1, 6, 7] [] rfl rfl rfl (sq (cs (cr [0, 1, 2] rfl ?_))))
  refine cq rfl rfl rfl (opMove (mv rfl)) ?_
  refine cq rfl rfl rfl (opBand (mv rfl) (Ev.const _)) ?_
  refine cq rfl rfl rfl (opAssign (mv rfl)) ?_
  refine rn (al [0, 1, 6, 7, 8] [] rfl rfl rfl (sq (cs (cr [0, 1, 2] rfl ?_))))
  refine cq rfl rfl rfl (opMove (mv rfl)) ?_
  refine cq rfl rfl rfl (opShrC 4294967296 (by decide) (mv rfl) (Ev.const _) (by decide)) ?_
  refine cq rfl rfl rfl (opAssign (mv rfl)) ?_
  refine rn (al [0, 1, 6, 7, 8, 9] [] rfl rfl rfl (sq (cs (cr [0, 1, 2, 3] rfl ?_))))
  refine cq rfl rfl rfl (opMove (mv rfl)) ?_
  refine cq rfl rfl rfl (opMove (mv rfl)) ?_
  refine cq rfl rfl rfl (opMul (mv rfl) (mv rfl)) ?_
  refine cq rfl rfl rfl (opAssign (mv rfl)) ?_
  refine rn (al [0, 1, 6, 7, 8, 9, 10] [] rfl rfl rfl (sq (cs (cr [0, 1, 2, 3, 4, 5, 6] rfl ?_))))
  refine cq rfl rfl rfl (opMove (mv rfl)) ?_
  refine cq rfl rfl rfl (opMove (mv rfl)) ?_
  refine cq rfl rfl rfl (opMul (mv rfl) (mv rfl)) ?_
  refine cq rfl rfl rfl (opMove (mv rfl)) ?_
  refine cq rfl rfl rfl (opShrC 4294967296 (by decide) (mv rfl) (Ev.const _) (by decide)) ?_
  refine cq rfl rfl rfl (opAdd (mv rfl) (mv rfl)) ?_
  refine cq rfl rfl rfl (opAssign (mv rfl)) ?_
  refine rn (al [0, 1, 6, 7, 9, 11] [] rfl rfl rfl (sq (cs (cr [0, 1, 2] rfl ?_))))
  refine cq rfl rfl rfl (opMove (mv rfl)) ?_
  refine cq rfl rfl rfl (opBand (mv rfl) (Ev.const _)) ?_
  refine cq rfl rfl rfl (opAssign (mv rfl)) ?_
  refine rn (al [0, 1, 6, 7, 9, 11, 12] [] rfl rfl rfl (sq (cs (cr [0, 1, 2] rfl ?_))))
  refine cq rfl rfl rfl (opMove (mv rfl)) ?_
  refine cq rfl rfl rfl (opShrC 4294967296 (by decide) (mv rfl) (Ev.const _) (by decide)) ?_
  refine cq rfl rfl rfl (opAssign (mv rfl)) ?_
  refine rn (al [0, 1, 6, 7, 9, 12, 13] [] rfl rfl rfl (sq (cs (cr [0, 1, 2, 3, 4, 5] rfl ?_))))
  refine cq rfl rfl rfl (opMove (mv rfl)) ?_
  refine cq rfl rfl rfl (opMove (mv rfl)) ?_
  refine cq rfl rfl rfl (opMove (mv rfl)) ?_
  refine cq rfl rfl rfl (opMul (mv rfl) (mv rfl)) ?_
  refine cq rfl rfl rfl (opAdd (mv rfl) (mv rfl)) ?_
  refine cq rfl rfl rfl (opAssign (mv rfl)) ?_
  refine rn (al [0, 1, 7, 9, 12, 13] [] rfl rfl rfl (sq (cs (cr [0, 1, 2, 3, 4, 5, 6, 7, 8] rfl ?_))))
  refine cq rfl rfl rfl (opMove (mv rfl)) ?_
  refine cq rfl rfl rfl (opMove (mv rfl)) ?_
  refine cq rfl rfl rfl (opMul (mv rfl) (mv rfl)) ?_
  refine cq rfl rfl rfl (opMove (mv rfl)) ?_
  refine cq rfl rfl rfl (opAdd (mv rfl) (mv rfl)) ?_
  refine cq rfl rfl rfl (opMove (mv rfl)) ?_
  refine cq rfl rfl rfl (opShrC 4294967296 (by decide) (mv rfl) (Ev.const _) (by decide)) ?_
  refine cq rfl rfl rfl (opAdd (mv rfl) (mv rfl)) ?_
  refine cq rfl rfl rfl (opAssign (mv rfl)) ?_
  refine rn (al [0, 1, 4] [] rfl rfl rfl (sq (cs (cr [0, 1, 2, 3] rfl ?_))))
  refine cq rfl rfl rfl (opMove (mv rfl)) ?_
  refine cq rfl rfl rfl (opMove (mv rfl)) ?_
  refine cq rfl rfl rfl (opMul (mv rfl) (mv rfl)) ?_
  refine cq rfl rfl rfl (opAssign (mv rfl)) ?_
  refine rn (al [4, 5] [] rfl rfl rfl (sq ?_))
  refine CodeT.ret ?_
  refine AtX.ret' (tupv [(iv .u64 (U ((U ((U ((v1.fdiv 4294967296) * (v2.fdiv 4294967296))) + ((U ((U ((v1.fdiv 4294967296) * (U ((BitVec.ofInt (IntKind.bits .u64) v2 &&& BitVec.ofInt (IntKind.bits .u64) 4294967295).toNat)))) + ((U ((U ((BitVec.ofInt (IntKind.bits .u64) v1 &&& BitVec.ofInt (IntKind.bits .u64) 4294967295).toNat)) * (U ((BitVec.ofInt (IntKind.bits .u64) v2 &&& BitVec.ofInt (IntKind.bits .u64) 4294967295).toNat)))).fdiv 4294967296))).fdiv 4294967296))) + ((U ((U ((BitVec.ofInt (IntKind.bits .u64) (U ((U ((v1.fdiv 4294967296) * (U ((BitVec.ofInt (IntKind.bits .u64) v2 &&& BitVec.ofInt (IntKind.bits .u64) 4294967295).toNat)))) + ((U ((U ((BitVec.ofInt (IntKind.bits .u64) v1 &&& BitVec.ofInt (IntKind.bits .u64) 4294967295).toNat)) * (U ((BitVec.ofInt (IntKind.bits .u64) v2 &&& BitVec.ofInt (IntKind.bits .u64) 4294967295).toNat)))).fdiv 4294967296))) &&& BitVec.ofInt (IntKind.bits .u64) 4294967295).toNat)) + (U ((U ((BitVec.ofInt (IntKind.bits .u64) v1 &&& BitVec.ofInt (IntKind.bits .u64) 4294967295).toNat)) * (v2.fdiv 4294967296))))).fdiv 4294967296)))), (iv .u64 (U (v1 * v2)))]) (ResOK.two Try.results48 rfl rfl) [] [] trivial rfl ?_
  obtain rfl := Option.some.inj h
  exact ⟨rfl, rfl⟩
theorem bits_Div64_ok {P : Program} (H : P = Try.prog) (φ : Nat) (v1 : Int) (v2 : Int) (v3 : Int) (r : (Int × Int)) (h : bits_Div64 φ v1 v2 v3 = some r) : PureT P 49 [(iv .u64 v1), (iv .u64 v2), (iv .u64 v3)] (fun x news => x = tupv [(iv .u64 r.1), (iv .u64 r.2)] ∧ news = []) := by
  unfold bits_Div64 at h
  refine PureT.of_code' 135 (fn49 H) rfl rfl (Nat.le_of_ble_eq_true rfl) fun w0 base r0 wI => ?_
  refine cl [0, 1, 2] [] rfl rfl rfl ?_
  refine cs (cr [0, 1] rfl ?_)
  refine cq rfl rfl rfl (opAssign (Ev.const _)) ?_
  refine cq rfl rfl rfl (opAssign (Ev.const _)) ?_
  refine rn (al [0, 1, 2] [] rfl rfl rfl (sq (cs (cs (cr [0, 1] rfl ?_)))))
  refine cq rfl rfl rfl (opMove (mv rfl)) ?_
  refine cq rfl rfl rfl (opEql (mv rfl) (Ev.const _)) ?_
  refine rn (al [0, 1, 2, 20] [] rfl rfl rfl (sq ?_))
  refine CodeT.cond (v3 == 0) (evBool (mv rfl)) (fun c4 => ?_) (fun c4 => ?_)
  · rw [if_pos c4] at h
    cases h
  · rw [if_neg (bne_true c4)] at h
    refine CodeT.skip ?_
    refine al [0, 1, 2] [] rfl rfl rfl ?_
    refine sq (cs (cs (cr [0, 1, 2] rfl ?_)))
    refine cq rfl rfl rfl (opMove (mv rfl)) ?_
    refine cq rfl rfl rfl (opMove (mv rfl)) ?_
    refine cq rfl rfl rfl (opLeq (mv rfl) (mv rfl)) ?_
    refine rn (al [0, 1, 2, 24] [] rfl rfl rfl (sq ?_))
    refine CodeT.cond (decide (v3 ≤ v1)) (evBool (mv rfl)) (fun c5 => ?_) (fun c5 => ?_)
    · rw [if_pos c5] at h
      cases h
    · rw [if_neg (bne_true c5)] at h
      refine CodeT.skip ?_
      refine al [0, 1, 2] [] rfl rfl rfl ?_
      refine sq (cs (cs (cr [0, 1] rfl ?_)))
      refine cq rfl rfl rfl (opMove (mv rfl)) ?_
      refine cq rfl rfl rfl (opEql (mv rfl) (Ev.const _)) ?_
      refine rn (al [0, 1, 2, 27] [] rfl rfl rfl (sq ?_))
      refine CodeT.cond (v1 == 0) (evBool (mv rfl)) (fun c6 => ?_) (fun c6 => ?_)
      · rw [if_pos c6] at h
        refine cs ?_
        refine ckE h fun h7 h => ?_
        refine CodeT.draw (QR := [(0, (iv .u64 v2)), (1, (iv .u64 v3)), (2, (iv .u64 (U (v2.tdiv v3)))), (3, (iv .u64 v2)), (4, (iv .u64 v3)), (5, (iv .u64 (v2.tmod v3))), (6, (iv .u64 (U (v2.tdiv v3)))), (7, (iv .u64 (v2.tmod v3)))]) (tab := [(some 28, []), (some 29, []), (some 30, [0, 1]), (some 31, []), (some 32, []), (some 33, [3, 4]), (some 6, [2, 0, 1, 2]), (some 7, [5, 6, 0, 1, 2, 3, 4, 5, 6])]) (mixed H) ?_
        refine Reg.intro [] [] (by kernel_rfl) rfl ⟨rfl, rfl, rfl, rfl, rfl, rfl, rfl, rfl, trivial⟩ ⟨(fun _ => ⟨_, rfl, (opMove (mv rfl))⟩), (fun _ => ⟨_, rfl, (opMove (mv rfl))⟩), (fun _ => ⟨_, rfl, (opQuo (mv rfl) (mv rfl) h7)⟩), (fun _ => ⟨_, rfl, (opMove (mv rfl))⟩), (fun _ => ⟨_, rfl, (opMove (mv rfl))⟩), (fun _ => ⟨_, rfl, (opRem (mv rfl) (mv rfl) h7)⟩), (fun _ => ⟨_, rfl, (opAssign (mv rfl))⟩), (fun _ => ⟨_, rfl, (opAssign (mv rfl))⟩), trivial⟩ trivial (fun _ => ?_)
        refine al [6, 7] [] rfl rfl rfl ?_
        refine sq ?_
        refine CodeT.ret ?_
        refine AtX.then_ret ?_
        refine AtX.ret' (tupv [(iv .u64 (U (v2.tdiv v3))), (iv .u64 (v2.tmod v3))]) (ResOK.two Try.results49 rfl rfl) [] [] trivial rfl ?_
        obtain rfl := Option.some.inj h
        exact ⟨rfl, rfl⟩
      · rw [if_neg (bne_true c6)] at h
        refine CodeT.skip ?_
        refine al [0, 1, 2] [] rfl rfl rfl ?_
        refine sq (cs (cr [0, 1, 2, 3] rfl ?_))
        refine cq rfl rfl rfl (opMove (mv rfl)) ?_
        refine bindE h fun y8 ey8 h => ?_
        refine cq rfl rfl rfl (opCallQ (fnok57 H) (args := [(iv .u64 v3)]) ⟨EvF.of (mv rfl) FEnt.refl, trivial⟩ (bits_LeadingZeros64_ok H φ v3 _ ey8) flat_eqv) ?_
        refine cq rfl rfl rfl (opConv (us3 H) (un111 H) (mv rfl)) ?_
        refine cq rfl rfl rfl (opAssign (mv rfl)) ?_
        refine rn (al [0, 1, 2, 8] [] rfl rfl rfl (sq (cs (cr [0, 1, 2, 3] rfl ?_))))
        refine cq rfl rfl rfl (opMove (mv rfl)) ?_
        refine cq rfl rfl rfl (opMove (mv rfl)) ?_
        refine ckE h fun h9 h => ?_
        refine cq rfl rfl rfl (opShl (mv rfl) (mv rfl) h9) ?_
        refine cq rfl rfl rfl (opAssign (mv rfl)) ?_
        refine rn (al [0, 1, 2, 8] [] rfl rfl rfl (sq (cs (cr [0, 1, 2] rfl ?_))))
        refine cq rfl rfl rfl (opMove (mv rfl)) ?_
        refine cq rfl rfl rfl (opShrC 4294967296 (by decide) (mv rfl) (Ev.const _) (by decide)) ?_
        refine cq rfl rfl rfl (opAssign (mv rfl)) ?_
        refine rn (al [0, 1, 2, 8, 9] [] rfl rfl rfl (sq (cs (cr [0, 1, 2] rfl ?_))))
        refine cq rfl rfl rfl (opMove (mv rfl)) ?_
        refine cq rfl rfl rfl (opBand (mv rfl) (Ev.const _)) ?_
        refine cq rfl rfl rfl (opAssign (mv rfl)) ?_
        refine rn (al [0, 1, 2, 8, 9, 10] [] rfl rfl rfl (sq (cs (cr [0, 1, 2, 3, 4, 5, 6, 7, 8] rfl ?_))))
        refine cq rfl rfl rfl (opMove (mv rfl)) ?_
        refine cq rfl rfl rfl (opMove (mv rfl)) ?_
        refine cq rfl rfl rfl (opShl (mv rfl) (mv rfl) h9) ?_
        refine cq rfl rfl rfl (opMove (mv rfl)) ?_
        refine cq rfl rfl rfl (opMove (mv rfl)) ?_
        refine cq rfl rfl rfl (opSub (Ev.const _) (mv rfl)) ?_
        refine ckE h fun h10 h => ?_
        refine cq rfl rfl rfl (opShr (mv rfl) (mv rfl) h10) ?_
        refine cq rfl rfl rfl (opBor (mv rfl) (mv rfl)) ?_
        refine cq rfl rfl rfl (opAssign (mv rfl)) ?_
        refine rn (al [1, 2, 8, 9, 10, 11] [] rfl rfl rfl (sq (cs (cr [0, 1, 2, 3] rfl ?_))))
        refine cq rfl rfl rfl (opMove (mv rfl)) ?_
        refine cq rfl rfl rfl (opMove (mv rfl)) ?_
        refine cq rfl rfl rfl (opShl (mv rfl) (mv rfl) h9) ?_
        refine cq rfl rfl rfl (opAssign (mv rfl)) ?_
        refine rn (al [2, 8, 9, 10, 11, 12] [] rfl rfl rfl (sq (cs (cr [0, 1, 2] rfl ?_))))
        refine cq rfl rfl rfl (opMove (mv rfl)) ?_
        refine cq rfl rfl rfl (opShrC 4294967296 (by decide) (mv rfl) (Ev.const _) (by decide)) ?_
        refine cq rfl rfl rfl (opAssign (mv rfl)) ?_
        refine rn (al [2, 8, 9, 10, 11, 12, 13] [] rfl rfl rfl (sq (cs (cr [0, 1, 2] rfl ?_))))
        refine cq rfl rfl rfl (opMove (mv rfl)) ?_
        refine cq rfl rfl rfl (opBand (mv rfl) (Ev.const _)) ?_
        refine cq rfl rfl rfl (opAssign (mv rfl)) ?_
        refine rn (al [2, 8, 9, 10, 11, 13, 14] [] rfl rfl rfl (sq (cs (cr [0, 1, 2, 3] rfl ?_))))
        refine cq rfl rfl rfl (opMove (mv rfl)) ?_
        refine cq rfl rfl rfl (opMove (mv rfl)) ?_
        refine ckE h fun h11 h => ?_
        refine cq rfl rfl rfl (opQuo (mv rfl) (mv rfl) h11) ?_
        refine cq rfl rfl rfl (opAssign (mv rfl)) ?_
        refine rn (al [2, 8, 9, 10, 11, 13, 14, 15] [] rfl rfl rfl (sq (cs (cr [0, 1, 2, 3, 4, 5] rfl ?_))))
        refine cq rfl rfl rfl (opMove (mv rfl)) ?_
        refine cq rfl rfl rfl (opMove (mv rfl)) ?_
        refine cq rfl rfl rfl (opMove (mv rfl)) ?_
        refine cq rfl rfl rfl (opMul (mv rfl) (mv rfl)) ?_
        refine cq rfl rfl rfl (opSub (mv rfl) (mv rfl)) ?_
        refine cq rfl rfl rfl (opAssign (mv rfl)) ?_
        refine rn (al [2, 8, 9, 10, 11, 13, 14, 15, 16] [] rfl rfl rfl (sq (cs ?_)))
        refine CodeT.join (fun z : Int => (bits_Div64_j13 φ v1 v2 v3 y8) z) r (fun z => ⟨Slots.of [(2, (iv .u64 (U (v3 * 2 ^ (min ((U (y8)) : Int).toNat (IntKind.bits .u64)))))), (8, (iv .u64 (U (y8)))), (9, (iv .u64 ((U (v3 * 2 ^ (min ((U (y8)) : Int).toNat (IntKind.bits .u64)))).fdiv 4294967296))), (10, (iv .u64 (U ((BitVec.ofInt (IntKind.bits .u64) (U (v3 * 2 ^ (min ((U (y8)) : Int).toNat (IntKind.bits .u64)))) &&& BitVec.ofInt (IntKind.bits .u64) 4294967295).toNat)))), (11, (iv .u64 (U ((BitVec.ofInt (IntKind.bits .u64) (U (v1 * 2 ^ (min ((U (y8)) : Int).toNat (IntKind.bits .u64)))) ||| BitVec.ofInt (IntKind.bits .u64) (v2.fdiv (2 ^ (min ((U (64 - (U (y8)))) : Int).toNat (IntKind.bits .u64))))).toNat)))), (13, (iv .u64 ((U (v2 * 2 ^ (min ((U (y8)) : Int).toNat (IntKind.bits .u64)))).fdiv 4294967296))), (14, (iv .u64 (U ((BitVec.ofInt (IntKind.bits .u64) (U (v2 * 2 ^ (min ((U (y8)) : Int).toNat (IntKind.bits .u64)))) &&& BitVec.ofInt (IntKind.bits .u64) 4294967295).toNat)))), (15, (iv .u64 z))], []⟩) (fun v12 h => ?_) (fun hJ13 => ?_)
        · replace h : (bits_Div64_j13 φ v1 v2 v3 y8) v12 = some r := h
          unfold bits_Div64_j13 at h
          refine al [2, 8, 9, 10, 11, 13, 14, 15] [] rfl rfl rfl ?_
          refine sq (cs (cr [0, 1, 2, 3, 4, 5, 6, 7, 8] rfl ?_))
          refine cq rfl rfl rfl (opMove (mv rfl)) ?_
          refine cq rfl rfl rfl (opMul (mv rfl) (Ev.const _)) ?_
          refine cq rfl rfl rfl (opMove (mv rfl)) ?_
          refine cq rfl rfl rfl (opAdd (mv rfl) (mv rfl)) ?_
          refine cq rfl rfl rfl (opMove (mv rfl)) ?_
          refine cq rfl rfl rfl (opMove (mv rfl)) ?_
          refine cq rfl rfl rfl (opMul (mv rfl) (mv rfl)) ?_
          refine cq rfl rfl rfl (opSub (mv rfl) (mv rfl)) ?_
          refine cq rfl rfl rfl (opAssign (mv rfl)) ?_
          refine rn (al [2, 8, 9, 10, 14, 15, 17] [] rfl rfl rfl (sq (cs (cr [0, 1, 2, 3] rfl ?_))))
          refine cq rfl rfl rfl (opMove (mv rfl)) ?_
          refine cq rfl rfl rfl (opMove (mv rfl)) ?_
          refine ckE h fun h14 h => ?_
          refine cq rfl rfl rfl (opQuo (mv rfl) (mv rfl) h14) ?_
          refine cq rfl rfl rfl (opAssign (mv rfl)) ?_
          refine rn (al [2, 8, 9, 10, 14, 15, 17, 18] [] rfl rfl rfl (sq (cs (cr [0, 1, 2, 3, 4, 5] rfl ?_))))
          refine cq rfl rfl rfl (opMove (mv rfl)) ?_
          refine cq rfl rfl rfl (opMove (mv rfl)) ?_
          refine cq rfl rfl rfl (opMove (mv rfl)) ?_
          refine cq rfl rfl rfl (opMul (mv rfl) (mv rfl)) ?_
          refine cq rfl rfl rfl (opSub (mv rfl) (mv rfl)) ?_
          refine cq rfl rfl rfl (opAssign (mv rfl)) ?_
          refine rn (al [2, 8, 9, 10, 14, 15, 16, 17, 18] [] rfl rfl rfl (sq (cs ?_)))
          refine CodeT.join (fun z : Int => (bits_Div64_j16 φ v1 v2 v3 y8 v12) z) r (fun z => ⟨Slots.of [(2, (iv .u64 (U (v3 * 2 ^ (min ((U (y8)) : Int).toNat (IntKind.bits .u64)))))), (8, (iv .u64 (U (y8)))), (14, (iv .u64 (U ((BitVec.ofInt (IntKind.bits .u64) (U (v2 * 2 ^ (min ((U (y8)) : Int).toNat (IntKind.bits .u64)))) &&& BitVec.ofInt (IntKind.bits .u64) 4294967295).toNat)))), (15, (iv .u64 v12)), (17, (iv .u64 (U ((U ((U ((U ((BitVec.ofInt (IntKind.bits .u64) (U (v1 * 2 ^ (min ((U (y8)) : Int).toNat (IntKind.bits .u64)))) ||| BitVec.ofInt (IntKind.bits .u64) (v2.fdiv (2 ^ (min ((U (64 - (U (y8)))) : Int).toNat (IntKind.bits .u64))))).toNat)) * 4294967296)) + ((U (v2 * 2 ^ (min ((U (y8)) : Int).toNat (IntKind.bits .u64)))).fdiv 4294967296))) - (U (v12 * (U (v3 * 2 ^ (min ((U (y8)) : Int).toNat (IntKind.bits .u64)))))))))), (18, (iv .u64 z))], []⟩) (fun v15 h => ?_) (fun hJ16 => ?_)
          · replace h : (bits_Div64_j16 φ v1 v2 v3 y8 v12) v15 = some r := h
            unfold bits_Div64_j16 at h
            refine al [2, 8, 14, 15, 17, 18] [] rfl rfl rfl ?_
            refine sq (cs (cr [0, 1, 2, 3, 4, 5, 6, 7, 8, 9, 10, 11, 12, 13, 14, 15] rfl ?_))
            refine cq rfl rfl rfl (opMove (mv rfl)) ?_
            refine cq rfl rfl rfl (opMul (mv rfl) (Ev.const _)) ?_
            refine cq rfl rfl rfl (opMove (mv rfl)) ?_
            refine cq rfl rfl rfl (opAdd (mv rfl) (mv rfl)) ?_
            refine cq rfl rfl rfl (opMove (mv rfl)) ?_
            refine cq rfl rfl rfl (opMul (mv rfl) (Ev.const _)) ?_
            refine cq rfl rfl rfl (opMove (mv rfl)) ?_
            refine cq rfl rfl rfl (opAdd (mv rfl) (mv rfl)) ?_
            refine cq rfl rfl rfl (opMove (mv rfl)) ?_
            refine cq rfl rfl rfl (opMove (mv rfl)) ?_
            refine cq rfl rfl rfl (opMul (mv rfl) (mv rfl)) ?_
            refine cq rfl rfl rfl (opSub (mv rfl) (mv rfl)) ?_
            refine cq rfl rfl rfl (opMove (mv rfl)) ?_
            refine ckE h fun h17 h => ?_
            refine cq rfl rfl rfl (opShr (mv rfl) (mv rfl) h17) ?_
            refine cq rfl rfl rfl (opAssign (mv rfl)) ?_
            refine cq rfl rfl rfl (opAssign (mv rfl)) ?_
            refine rn (al [6, 7] [] rfl rfl rfl (sq ?_))
            refine CodeT.ret ?_
            refine AtX.ret' (tupv [(iv .u64 (U ((U (v12 * 4294967296)) + v15))), (iv .u64 ((U ((U ((U ((U ((U ((U ((U ((BitVec.ofInt (IntKind.bits .u64) (U (v1 * 2 ^ (min ((U (y8)) : Int).toNat (IntKind.bits .u64)))) ||| BitVec.ofInt (IntKind.bits .u64) (v2.fdiv (2 ^ (min ((U (64 - (U (y8)))) : Int).toNat (IntKind.bits .u64))))).toNat)) * 4294967296)) + ((U (v2 * 2 ^ (min ((U (y8)) : Int).toNat (IntKind.bits .u64)))).fdiv 4294967296))) - (U (v12 * (U (v3 * 2 ^ (min ((U (y8)) : Int).toNat (IntKind.bits .u64)))))))) * 4294967296)) + (U ((BitVec.ofInt (IntKind.bits .u64) (U (v2 * 2 ^ (min ((U (y8)) : Int).toNat (IntKind.bits .u64)))) &&& BitVec.ofInt (IntKind.bits .u64) 4294967295).toNat)))) - (U (v15 * (U (v3 * 2 ^ (min ((U (y8)) : Int).toNat (IntKind.bits .u64)))))))).fdiv (2 ^ (min ((U (y8)) : Int).toNat (IntKind.bits .u64)))))]) (ResOK.two Try.results49 rfl rfl) [] [] trivial rfl ?_
            obtain rfl := Option.some.inj h
            exact ⟨rfl, rfl⟩
          · refine CodeT.block ?_
            refine CodeT.to (CodeT.loop (fun n (z : Int × Int) => bits_Div64_L20 φ v2 v3 y8 (bits_Div64_j16 φ v1 v2 v3 y8 v12) n z.1 z.2) r (fun z => ⟨Slots.of [(2, (iv .u64 (U (v3 * 2 ^ (min ((U (y8)) : Int).toNat (IntKind.bits .u64)))))), (8, (iv .u64 (U (y8)))), (9, (iv .u64 ((U (v3 * 2 ^ (min ((U (y8)) : Int).toNat (IntKind.bits .u64)))).fdiv 4294967296))), (10, (iv .u64 (U ((BitVec.ofInt (IntKind.bits .u64) (U (v3 * 2 ^ (min ((U (y8)) : Int).toNat (IntKind.bits .u64)))) &&& BitVec.ofInt (IntKind.bits .u64) 4294967295).toNat)))), (14, (iv .u64 (U ((BitVec.ofInt (IntKind.bits .u64) (U (v2 * 2 ^ (min ((U (y8)) : Int).toNat (IntKind.bits .u64)))) &&& BitVec.ofInt (IntKind.bits .u64) 4294967295).toNat)))), (15, (iv .u64 v12)), (16, (iv .u64 z.1)), (17, (iv .u64 (U ((U ((U ((U ((BitVec.ofInt (IntKind.bits .u64) (U (v1 * 2 ^ (min ((U (y8)) : Int).toNat (IntKind.bits .u64)))) ||| BitVec.ofInt (IntKind.bits .u64) (v2.fdiv (2 ^ (min ((U (64 - (U (y8)))) : Int).toNat (IntKind.bits .u64))))).toNat)) * 4294967296)) + ((U (v2 * 2 ^ (min ((U (y8)) : Int).toNat (IntKind.bits .u64)))).fdiv 4294967296))) - (U (v12 * (U (v3 * 2 ^ (min ((U (y8)) : Int).toNat (IntKind.bits .u64)))))))))), (18, (iv .u64 z.2))], []⟩) (fun z => rfl) (fun n20 z ih20 h => ?_) φ ((U ((U ((U ((U ((U ((BitVec.ofInt (IntKind.bits .u64) (U (v1 * 2 ^ (min ((U (y8)) : Int).toNat (IntKind.bits .u64)))) ||| BitVec.ofInt (IntKind.bits .u64) (v2.fdiv (2 ^ (min ((U (64 - (U (y8)))) : Int).toNat (IntKind.bits .u64))))).toNat)) * 4294967296)) + ((U (v2 * 2 ^ (min ((U (y8)) : Int).toNat (IntKind.bits .u64)))).fdiv 4294967296))) - (U (v12 * (U (v3 * 2 ^ (min ((U (y8)) : Int).toNat (IntKind.bits .u64)))))))) - (U ((U ((U ((U ((U ((U ((BitVec.ofInt (IntKind.bits .u64) (U (v1 * 2 ^ (min ((U (y8)) : Int).toNat (IntKind.bits .u64)))) ||| BitVec.ofInt (IntKind.bits .u64) (v2.fdiv (2 ^ (min ((U (64 - (U (y8)))) : Int).toNat (IntKind.bits .u64))))).toNat)) * 4294967296)) + ((U (v2 * 2 ^ (min ((U (y8)) : Int).toNat (IntKind.bits .u64)))).fdiv 4294967296))) - (U (v12 * (U (v3 * 2 ^ (min ((U (y8)) : Int).toNat (IntKind.bits .u64)))))))).tdiv ((U (v3 * 2 ^ (min ((U (y8)) : Int).toNat (IntKind.bits .u64)))).fdiv 4294967296))) * ((U (v3 * 2 ^ (min ((U (y8)) : Int).toNat (IntKind.bits .u64)))).fdiv 4294967296))))), (U ((U ((U ((U ((U ((BitVec.ofInt (IntKind.bits .u64) (U (v1 * 2 ^ (min ((U (y8)) : Int).toNat (IntKind.bits .u64)))) ||| BitVec.ofInt (IntKind.bits .u64) (v2.fdiv (2 ^ (min ((U (64 - (U (y8)))) : Int).toNat (IntKind.bits .u64))))).toNat)) * 4294967296)) + ((U (v2 * 2 ^ (min ((U (y8)) : Int).toNat (IntKind.bits .u64)))).fdiv 4294967296))) - (U (v12 * (U (v3 * 2 ^ (min ((U (y8)) : Int).toNat (IntKind.bits .u64)))))))).tdiv ((U (v3 * 2 ^ (min ((U (y8)) : Int).toNat (IntKind.bits .u64)))).fdiv 4294967296)))) h) [] (sl rfl) trivial rfl
            obtain ⟨v18, v19⟩ := z
            replace h : bits_Div64_L20 φ v2 v3 y8 (bits_Div64_j16 φ v1 v2 v3 y8 v12) (n20 + 1) v18 v19 = some r := h
            rw [bits_Div64_L20] at h
            refine cs (cs (cr [0, 1, 2, 3, 4, 5, 6, 7, 8, 9, 10, 11] rfl ?_))
            refine cq rfl rfl rfl (opMove (mv rfl)) ?_
            refine cq rfl rfl rfl (opGeq (mv rfl) (Ev.const _)) ?_
            refine cq rfl rfl rfl (opMove (mv rfl)) ?_
            refine cg rfl rfl rfl rfl rfl (fun g21 => opMove (mv rfl)) ?_
            refine cg rfl rfl rfl rfl rfl (fun g22 => opMove (mv rfl)) ?_
            refine cg rfl rfl rfl rfl rfl (fun g23 => opMul (Ev.cnd (mv rfl) g23) (Ev.cnd (mv rfl) g23)) ?_
            refine cg rfl rfl rfl rfl rfl (fun g24 => opMove (mv rfl)) ?_
            refine cg rfl rfl rfl rfl rfl (fun g25 => opMul (Ev.const _) (Ev.cnd (mv rfl) g25)) ?_
            refine cg rfl rfl rfl rfl rfl (fun g26 => opMove (mv rfl)) ?_
            refine cg rfl rfl rfl rfl rfl (fun g27 => opAdd (Ev.cnd (mv rfl) g27) (Ev.cnd (mv rfl) g27)) ?_
            refine cg rfl rfl rfl rfl rfl (fun g28 => opGtr (Ev.cnd (mv rfl) g28) (Ev.cnd (mv rfl) g28)) ?_
            refine cq rfl rfl rfl (opOr (mv rfl) (Ev.const _) (fun g29 => (Ev.cnd (mv rfl) g29))) ?_
            refine rn (al [2, 8, 9, 10, 14, 15, 16, 17, 18, 113] [] rfl rfl rfl (sq ?_))
            refine CodeT.cond (decide (4294967296 ≤ v19) || decide ((U ((U (4294967296 * v18)) + (U ((BitVec.ofInt (IntKind.bits .u64) (U (v2 * 2 ^ (min ((U (y8)) : Int).toNat (IntKind.bits .u64)))) &&& BitVec.ofInt (IntKind.bits .u64) 4294967295).toNat)))) < (U (v19 * (U ((BitVec.ofInt (IntKind.bits .u64) (U (v3 * 2 ^ (min ((U (y8)) : Int).toNat (IntKind.bits .u64)))) &&& BitVec.ofInt (IntKind.bits .u64) 4294967295).toNat)))))) (evBool (mv rfl)) (fun c30 => ?_) (fun c30 => ?_)
            · rw [if_pos c30] at h
              refine CodeT.skip ?_
              refine al [2, 8, 9, 10, 14, 15, 16, 17, 18] [] rfl rfl rfl ?_
              refine sq ?_
              refine CodeT.block ?_
              refine cs (cr [0, 1, 2] rfl ?_)
              refine cq rfl rfl rfl (opMove (mv rfl)) ?_
              refine cq rfl rfl rfl (opSub (mv rfl) (Ev.const _)) ?_
              refine cq rfl rfl rfl (opAssign (mv rfl)) ?_
              refine rn (al [2, 8, 9, 10, 14, 15, 16, 17, 18] [] rfl rfl rfl (sq (cs (cr [0, 1, 2, 3] rfl ?_))))
              refine cq rfl rfl rfl (opMove (mv rfl)) ?_
              refine cq rfl rfl rfl (opMove (mv rfl)) ?_
              refine cq rfl rfl rfl (opAdd (mv rfl) (mv rfl)) ?_
              refine cq rfl rfl rfl (opAssign (mv rfl)) ?_
              refine rn (al [2, 8, 9, 10, 14, 15, 16, 17, 18] [] rfl rfl rfl (sq (cs (cr [0, 1] rfl ?_))))
              refine cq rfl rfl rfl (opMove (mv rfl)) ?_
              refine cq rfl rfl rfl (opGeq (mv rfl) (Ev.const _)) ?_
              refine rn (al [2, 8, 9, 10, 14, 15, 16, 17, 18, 120] [] rfl rfl rfl (sq ?_))
              refine CodeT.cond (decide (4294967296 ≤ (U (v18 + ((U (v3 * 2 ^ (min ((U (y8)) : Int).toNat (IntKind.bits .u64)))).fdiv 4294967296))))) (evBool (mv rfl)) (fun c31 => ?_) (fun c31 => ?_)
              · rw [if_pos c31] at h
                refine CodeT.exit ?_
                refine AtX.in_miss (by decide) ?_
                refine AtX.then_exit ?_
                refine AtX.in_hit ?_
                exact AtX.to (hJ16 (U (v19 - 1)) h) [] (sl rfl) trivial rfl
              · rw [if_neg (bne_true c31)] at h
                refine CodeT.skip ?_
                refine AtX.in_normal ?_
                exact AtX.to (ih20 ((U (v18 + ((U (v3 * 2 ^ (min ((U (y8)) : Int).toNat (IntKind.bits .u64)))).fdiv 4294967296))), (U (v19 - 1))) h) [] (sl rfl) trivial rfl
            · rw [if_neg (bne_true c30)] at h
              refine CodeT.exit ?_
              refine AtX.then_exit ?_
              refine AtX.then_exit ?_
              refine AtX.in_hit ?_
              exact AtX.to (hJ16 v19 h) [] (sl rfl) trivial rfl
        · refine CodeT.block ?_
          refine CodeT.to (CodeT.loop (fun n (z : Int × Int) => bits_Div64_L34 φ v2 v3 y8 (bits_Div64_j13 φ v1 v2 v3 y8) n z.1 z.2) r (fun z => ⟨Slots.of [(2, (iv .u64 (U (v3 * 2 ^ (min ((U (y8)) : Int).toNat (IntKind.bits .u64)))))), (8, (iv .u64 (U (y8)))), (9, (iv .u64 ((U (v3 * 2 ^ (min ((U (y8)) : Int).toNat (IntKind.bits .u64)))).fdiv 4294967296))), (10, (iv .u64 (U ((BitVec.ofInt (IntKind.bits .u64) (U (v3 * 2 ^ (min ((U (y8)) : Int).toNat (IntKind.bits .u64)))) &&& BitVec.ofInt (IntKind.bits .u64) 4294967295).toNat)))), (11, (iv .u64 (U ((BitVec.ofInt (IntKind.bits .u64) (U (v1 * 2 ^ (min ((U (y8)) : Int).toNat (IntKind.bits .u64)))) ||| BitVec.ofInt (IntKind.bits .u64) (v2.fdiv (2 ^ (min ((U (64 - (U (y8)))) : Int).toNat (IntKind.bits .u64))))).toNat)))), (13, (iv .u64 ((U (v2 * 2 ^ (min ((U (y8)) : Int).toNat (IntKind.bits .u64)))).fdiv 4294967296))), (14, (iv .u64 (U ((BitVec.ofInt (IntKind.bits .u64) (U (v2 * 2 ^ (min ((U (y8)) : Int).toNat (IntKind.bits .u64)))) &&& BitVec.ofInt (IntKind.bits .u64) 4294967295).toNat)))), (15, (iv .u64 z.1)), (16, (iv .u64 z.2))], []⟩) (fun z => rfl) (fun n34 z ih34 h => ?_) φ ((U ((U ((BitVec.ofInt (IntKind.bits .u64) (U (v1 * 2 ^ (min ((U (y8)) : Int).toNat (IntKind.bits .u64)))) ||| BitVec.ofInt (IntKind.bits .u64) (v2.fdiv (2 ^ (min ((U (64 - (U (y8)))) : Int).toNat (IntKind.bits .u64))))).toNat)).tdiv ((U (v3 * 2 ^ (min ((U (y8)) : Int).toNat (IntKind.bits .u64)))).fdiv 4294967296))), (U ((U ((BitVec.ofInt (IntKind.bits .u64) (U (v1 * 2 ^ (min ((U (y8)) : Int).toNat (IntKind.bits .u64)))) ||| BitVec.ofInt (IntKind.bits .u64) (v2.fdiv (2 ^ (min ((U (64 - (U (y8)))) : Int).toNat (IntKind.bits .u64))))).toNat)) - (U ((U ((U ((BitVec.ofInt (IntKind.bits .u64) (U (v1 * 2 ^ (min ((U (y8)) : Int).toNat (IntKind.bits .u64)))) ||| BitVec.ofInt (IntKind.bits .u64) (v2.fdiv (2 ^ (min ((U (64 - (U (y8)))) : Int).toNat (IntKind.bits .u64))))).toNat)).tdiv ((U (v3 * 2 ^ (min ((U (y8)) : Int).toNat (IntKind.bits .u64)))).fdiv 4294967296))) * ((U (v3 * 2 ^ (min ((U (y8)) : Int).toNat (IntKind.bits .u64)))).fdiv 4294967296)))))) h) [] (sl rfl) trivial rfl
          obtain ⟨v32, v33⟩ := z
          replace h : bits_Div64_L34 φ v2 v3 y8 (bits_Div64_j13 φ v1 v2 v3 y8) (n34 + 1) v32 v33 = some r := h
          rw [bits_Div64_L34] at h
          refine cs (cs (cr [0, 1, 2, 3, 4, 5, 6, 7, 8, 9, 10, 11] rfl ?_))
          refine cq rfl rfl rfl (opMove (mv rfl)) ?_
          refine cq rfl rfl rfl (opGeq (mv rfl) (Ev.const _)) ?_
          refine cq rfl rfl rfl (opMove (mv rfl)) ?_
          refine cg rfl rfl rfl rfl rfl (fun g35 => opMove (mv rfl)) ?_
          refine cg rfl rfl rfl rfl rfl (fun g36 => opMove (mv rfl)) ?_
          refine cg rfl rfl rfl rfl rfl (fun g37 => opMul (Ev.cnd (mv rfl) g37) (Ev.cnd (mv rfl) g37)) ?_
          refine cg rfl rfl rfl rfl rfl (fun g38 => opMove (mv rfl)) ?_
          refine cg rfl rfl rfl rfl rfl (fun g39 => opMul (Ev.const _) (Ev.cnd (mv rfl) g39)) ?_
          refine cg rfl rfl rfl rfl rfl (fun g40 => opMove (mv rfl)) ?_
          refine cg rfl rfl rfl rfl rfl (fun g41 => opAdd (Ev.cnd (mv rfl) g41) (Ev.cnd (mv rfl) g41)) ?_
          refine cg rfl rfl rfl rfl rfl (fun g42 => opGtr (Ev.cnd (mv rfl) g42) (Ev.cnd (mv rfl) g42)) ?_
          refine cq rfl rfl rfl (opOr (mv rfl) (Ev.const _) (fun g43 => (Ev.cnd (mv rfl) g43))) ?_
          refine rn (al [2, 8, 9, 10, 11, 13, 14, 15, 16, 78] [] rfl rfl rfl (sq ?_))
          refine CodeT.cond (decide (4294967296 ≤ v32) || decide ((U ((U (4294967296 * v33)) + ((U (v2 * 2 ^ (min ((U (y8)) : Int).toNat (IntKind.bits .u64)))).fdiv 4294967296))) < (U (v32 * (U ((BitVec.ofInt (IntKind.bits .u64) (U (v3 * 2 ^ (min ((U (y8)) : Int).toNat (IntKind.bits .u64)))) &&& BitVec.ofInt (IntKind.bits .u64) 4294967295).toNat)))))) (evBool (mv rfl)) (fun c44 => ?_) (fun c44 => ?_)
          · rw [if_pos c44] at h
            refine CodeT.skip ?_
            refine al [2, 8, 9, 10, 11, 13, 14, 15, 16] [] rfl rfl rfl ?_
            refine sq ?_
            refine CodeT.block ?_
            refine cs (cr [0, 1, 2] rfl ?_)
            refine cq rfl rfl rfl (opMove (mv rfl)) ?_
            refine cq rfl rfl rfl (opSub (mv rfl) (Ev.const _)) ?_
            refine cq rfl rfl rfl (opAssign (mv rfl)) ?_
            refine rn (al [2, 8, 9, 10, 11, 13, 14, 15, 16] [] rfl rfl rfl (sq (cs (cr [0, 1, 2, 3] rfl ?_))))
            refine cq rfl rfl rfl (opMove (mv rfl)) ?_
            refine cq rfl rfl rfl (opMove (mv rfl)) ?_
            refine cq rfl rfl rfl (opAdd (mv rfl) (mv rfl)) ?_
            refine cq rfl rfl rfl (opAssign (mv rfl)) ?_
            refine rn (al [2, 8, 9, 10, 11, 13, 14, 15, 16] [] rfl rfl rfl (sq (cs (cr [0, 1] rfl ?_))))
            refine cq rfl rfl rfl (opMove (mv rfl)) ?_
            refine cq rfl rfl rfl (opGeq (mv rfl) (Ev.const _)) ?_
            refine rn (al [2, 8, 9, 10, 11, 13, 14, 15, 16, 85] [] rfl rfl rfl (sq ?_))
            refine CodeT.cond (decide (4294967296 ≤ (U (v33 + ((U (v3 * 2 ^ (min ((U (y8)) : Int).toNat (IntKind.bits .u64)))).fdiv 4294967296))))) (evBool (mv rfl)) (fun c45 => ?_) (fun c45 => ?_)
            · rw [if_pos c45] at h
              refine CodeT.exit ?_
              refine AtX.in_miss (by decide) ?_
              refine AtX.then_exit ?_
              refine AtX.in_hit ?_
              exact AtX.to (hJ13 (U (v32 - 1)) h) [] (sl rfl) trivial rfl
            · rw [if_neg (bne_true c45)] at h
              refine CodeT.skip ?_
              refine AtX.in_normal ?_
              exact AtX.to (ih34 ((U (v32 - 1)), (U (v33 + ((U (v3 * 2 ^ (min ((U (y8)) : Int).toNat (IntKind.bits .u64)))).fdiv 4294967296)))) h) [] (sl rfl) trivial rfl
          · rw [if_neg (bne_true c44)] at h
            refine CodeT.exit ?_
            refine AtX.then_exit ?_
            refine AtX.then_exit ?_
            refine AtX.in_hit ?_
            exact AtX.to (hJ13 v32 h) [] (sl rfl) trivial rfl
theorem ref08_between_ok {P : Program} (H : P = Try.prog) (φ : Nat) (v1 : Int) (v2 : Int) (v3 : Int) (r : (Bool)) (h : ref08_between φ v1 v2 v3 = some r) : PureT P 58 [(iv .i64 v1), (iv .i64 v2), (iv .i64 v3)] (fun x news => x = (bv r) ∧ news = []) := by
  unfold ref08_between at h
  refine PureT.of_code' 15 (fn58 H) rfl rfl (Nat.le_of_ble_eq_true rfl) fun w0 base r0 wI => ?_
  refine cl [0, 1, 2] [] rfl rfl rfl ?_
  refine cs (cr [0] rfl ?_)
  refine cq rfl rfl rfl (opAssign (Ev.const _)) ?_
  refine rn (al [0, 1, 2] [] rfl rfl rfl (sq (cs (cr [0, 1, 2, 3, 4, 5, 6, 7, 8] rfl ?_))))
  refine cq rfl rfl rfl (opMove (mv rfl)) ?_
  refine cq rfl rfl rfl (opMove (mv rfl)) ?_
  refine cq rfl rfl rfl (opLeq (mv rfl) (mv rfl)) ?_
  refine cq rfl rfl rfl (opMove (mv rfl)) ?_
  refine cg rfl rfl rfl rfl rfl (fun g4 => opMove (mv rfl)) ?_
  refine cg rfl rfl rfl rfl rfl (fun g5 => opMove (mv rfl)) ?_
  refine cg rfl rfl rfl rfl rfl (fun g6 => opLeq (Ev.cnd (mv rfl) g6) (Ev.cnd (mv rfl) g6)) ?_
  refine cq rfl rfl rfl (opAnd (mv rfl) (fun g7 => (Ev.cnd (mv rfl) g7)) (Ev.const _)) ?_
  refine cq rfl rfl rfl (opAssign (mv rfl)) ?_
  refine rn (al [6] [] rfl rfl rfl (sq ?_))
  refine CodeT.ret ?_
  refine AtX.ret' (bv (decide (v2 ≤ v1) && decide (v1 ≤ v3))) (ResOK.one Try.results58 rfl) [] [] trivial rfl ?_
  obtain rfl := Option.some.inj h
  exact ⟨rfl, rfl⟩
theorem network_place_ok {P : Program} (H : P = Try.prog) (φ : Nat) (v1 : Place) (r : (Bool)) (h : network_place φ v1 = some r) : PureT P 45 [(agg (ePlace v1))] (fun x news => x = (bv r) ∧ news = []) := by
  unfold network_place at h
  refine PureT.of_code' 42 (fn45 H) rfl rfl (Nat.le_of_ble_eq_true rfl) fun w0 base r0 wI => ?_
  refine cl [0] [] rfl rfl rfl ?_
  refine cs (cr [0, 1] rfl ?_)
  refine RunOps.cons rfl rfl rfl (opBox (cs := (ePlace v1)) (Ce.agg (mv rfl)) fun b2 => ?_)
  refine cq rfl rfl rfl (opAssign (Ev.const _)) ?_
  refine rn (al [1] [0] rfl rfl rfl (sq (cs (cs (cr [0, 1, 2, 3, 4, 5, 6, 7, 8, 9, 10, 11, 12, 13, 14, 15, 16, 17] rfl ?_)))))
  refine cq rfl rfl rfl (opFieldP (fo77_0 H) (mv rfl)) ?_
  refine cq rfl rfl rfl (opLoad1 (tl3 H) ((Pt.box 0 (mv rfl) rfl rfl).take 1 (cs' := [(iv .i64 v1.fKind)]) rfl)) ?_
  refine cq rfl rfl rfl (opLss (mv rfl) (Ev.const _)) ?_
  refine cq rfl rfl rfl (opMove (mv rfl)) ?_
  refine cg rfl rfl rfl rfl rfl (fun g3 => opFieldP (fo77_0 H) (mv rfl)) ?_
  refine cg rfl rfl rfl rfl rfl (fun g4 => opLoad1 (tl3 H) ((Pt.box 0 (Ev.cnd (mv rfl) g4) rfl rfl).take 1 (cs' := [(iv .i64 v1.fKind)]) rfl)) ?_
  refine cg rfl rfl rfl rfl rfl (fun g5 => opGtr (Ev.cnd (mv rfl) g5) (Ev.const _)) ?_
  refine cq rfl rfl rfl (opOr (mv rfl) (Ev.const _) (fun g6 => (Ev.cnd (mv rfl) g6))) ?_
  refine cq rfl rfl rfl (opMove (mv rfl)) ?_
  refine cg rfl rfl rfl rfl rfl (fun g7 => opFieldP (fo77_1 H) (mv rfl)) ?_
  refine cg rfl rfl rfl rfl rfl (fun g8 => opLoad1 (tl3 H) ((Pt.box 0 (Ev.cnd (mv rfl) g8) rfl rfl).take 1 (cs' := [(iv .i64 v1.fRailway)]) rfl)) ?_
  refine cg rfl rfl rfl rfl rfl (fun g9 => opLss (Ev.cnd (mv rfl) g9) (Ev.const _)) ?_
  refine cq rfl rfl rfl (opOr (mv rfl) (Ev.const _) (fun g10 => (Ev.cnd (mv rfl) g10))) ?_
  refine cq rfl rfl rfl (opMove (mv rfl)) ?_
  refine cg rfl rfl rfl rfl rfl (fun g11 => opFieldP (fo77_1 H) (mv rfl)) ?_
  refine cg rfl rfl rfl rfl rfl (fun g12 => opLoad1 (tl3 H) ((Pt.box 0 (Ev.cnd (mv rfl) g12) rfl rfl).take 1 (cs' := [(iv .i64 v1.fRailway)]) rfl)) ?_
  refine cg rfl rfl rfl rfl rfl (fun g13 => opGeq (Ev.cnd (mv rfl) g13) (Ev.const _)) ?_
  refine cq rfl rfl rfl (opOr (mv rfl) (Ev.const _) (fun g14 => (Ev.cnd (mv rfl) g14))) ?_
  refine rn (al [1, 20] [0] rfl rfl rfl (sq ?_))
  refine CodeT.cond (((decide (v1.fKind < 1) || decide (5 < v1.fKind)) || decide (v1.fRailway < 0)) || decide (16 ≤ v1.fRailway)) (evBool (mv rfl)) (fun c15 => ?_) (fun c15 => ?_)
  · rw [if_pos c15] at h
    refine cs (cr [0] rfl ?_)
    refine cq rfl rfl rfl (opAssign (Ev.const _)) ?_
    refine rn (al [2] [] rfl rfl rfl (sq ?_))
    refine CodeT.ret ?_
    refine AtX.then_ret ?_
    refine AtX.ret' (bv false) (ResOK.one Try.results45 rfl) [] [] trivial rfl ?_
    obtain rfl := Option.some.inj h
    exact ⟨rfl, rfl⟩
  · rw [if_neg (bne_true c15)] at h
    refine CodeT.skip ?_
    refine al [1] [0] rfl rfl rfl ?_
    refine sq (cs (cs (cr [0, 1, 2] rfl ?_)))
    refine cq rfl rfl rfl (opFieldP (fo77_0 H) (mv rfl)) ?_
    refine cq rfl rfl rfl (opLoad1 (tl3 H) ((Pt.box 0 (mv rfl) rfl rfl).take 1 (cs' := [(iv .i64 v1.fKind)]) rfl)) ?_
    refine cq rfl rfl rfl (opNeq (mv rfl) (Ev.const _)) ?_
    refine rn (al [1, 23] [0] rfl rfl rfl (sq ?_))
    refine CodeT.cond (v1.fKind != 3) (evBool (mv rfl)) (fun c16 => ?_) (fun c16 => ?_)
    · rw [if_pos c16] at h
      refine cs (cr [0, 1, 2, 3] rfl ?_)
      refine cq rfl rfl rfl (opFieldP (fo77_2 H) (mv rfl)) ?_
      refine cq rfl rfl rfl (opLoad1 (tl3 H) ((Pt.box 0 (mv rfl) rfl rfl).take 1 (cs' := [(iv .i64 v1.fOther)]) rfl)) ?_
      refine cq rfl rfl rfl (opEql (mv rfl) (Ev.const _)) ?_
      refine cq rfl rfl rfl (opAssign (mv rfl)) ?_
      refine rn (al [2] [] rfl rfl rfl (sq ?_))
      refine CodeT.ret ?_
      refine AtX.then_ret ?_
      refine AtX.ret' (bv (v1.fOther == (-1))) (ResOK.one Try.results45 rfl) [] [] trivial rfl ?_
      obtain rfl := Option.some.inj h
      exact ⟨rfl, rfl⟩
    · rw [if_neg (bne_true c16)] at h
      refine CodeT.skip ?_
      refine al [1] [0] rfl rfl rfl ?_
      refine sq (cs (cr [0, 1, 2, 3, 4, 5, 6, 7, 8, 9, 10, 11, 12, 13, 14, 15] rfl ?_))
      refine cq rfl rfl rfl (opFieldP (fo77_2 H) (mv rfl)) ?_
      refine cq rfl rfl rfl (opLoad1 (tl3 H) ((Pt.box 0 (mv rfl) rfl rfl).take 1 (cs' := [(iv .i64 v1.fOther)]) rfl)) ?_
      refine cq rfl rfl rfl (opGeq (mv rfl) (Ev.const _)) ?_
      refine cq rfl rfl rfl (opMove (mv rfl)) ?_
      refine cg rfl rfl rfl rfl rfl (fun g17 => opFieldP (fo77_2 H) (mv rfl)) ?_
      refine cg rfl rfl rfl rfl rfl (fun g18 => opLoad1 (tl3 H) ((Pt.box 0 (Ev.cnd (mv rfl) g18) rfl rfl).take 1 (cs' := [(iv .i64 v1.fOther)]) rfl)) ?_
      refine cg rfl rfl rfl rfl rfl (fun g19 => opLss (Ev.cnd (mv rfl) g19) (Ev.const _)) ?_
      refine cq rfl rfl rfl (opAnd (mv rfl) (fun g20 => (Ev.cnd (mv rfl) g20)) (Ev.const _)) ?_
      refine cq rfl rfl rfl (opMove (mv rfl)) ?_
      refine cg rfl rfl rfl rfl rfl (fun g21 => opFieldP (fo77_2 H) (mv rfl)) ?_
      refine cg rfl rfl rfl rfl rfl (fun g22 => opLoad1 (tl3 H) ((Pt.box 0 (Ev.cnd (mv rfl) g22) rfl rfl).take 1 (cs' := [(iv .i64 v1.fOther)]) rfl)) ?_
      refine cg rfl rfl rfl rfl rfl (fun g23 => opFieldP (fo77_1 H) (mv rfl)) ?_
      refine cg rfl rfl rfl rfl rfl (fun g24 => opLoad1 (tl3 H) ((Pt.box 0 (Ev.cnd (mv rfl) g24) rfl rfl).take 1 (cs' := [(iv .i64 v1.fRailway)]) rfl)) ?_
      refine cg rfl rfl rfl rfl rfl (fun g25 => opNeq (Ev.cnd (mv rfl) g25) (Ev.cnd (mv rfl) g25)) ?_
      refine cq rfl rfl rfl (opAnd (mv rfl) (fun g26 => (Ev.cnd (mv rfl) g26)) (Ev.const _)) ?_
      refine cq rfl rfl rfl (opAssign (mv rfl)) ?_
      refine rn (al [2] [] rfl rfl rfl (sq ?_))
      refine CodeT.ret ?_
      refine AtX.ret' (bv ((decide (0 ≤ v1.fOther) && decide (v1.fOther < 16)) && (v1.fOther != v1.fRailway))) (ResOK.one Try.results45 rfl) [] [] trivial rfl ?_
      obtain rfl := Option.some.inj h
      exact ⟨rfl, rfl⟩
theorem ref08_place_ok {P : Program} (H : P = Try.prog) (φ : Nat) (v1 : Place) (r : (Bool)) (h : ref08_place φ v1 = some r) : PureT P 52 [(agg (ePlace v1))] (fun x news => x = (bv r) ∧ news = []) := by
  unfold ref08_place at h
  refine PureT.of_code' 29 (fn52 H) rfl rfl (Nat.le_of_ble_eq_true rfl) fun w0 base r0 wI => ?_
  refine cl [0] [] rfl rfl rfl ?_
  refine cs (cr [0, 1] rfl ?_)
  refine RunOps.cons rfl rfl rfl (opBox (cs := (ePlace v1)) (Ce.agg (mv rfl)) fun b2 => ?_)
  refine cq rfl rfl rfl (opAssign (Ev.const _)) ?_
  refine rn (al [1] [0] rfl rfl rfl (sq (cs (cs (cr [0, 1, 2, 3, 4, 5, 6, 7, 8, 9] rfl ?_)))))
  refine cq rfl rfl rfl (opFieldP (fo77_0 H) (mv rfl)) ?_
  refine cq rfl rfl rfl (opLoad1 (tl3 H) ((Pt.box 0 (mv rfl) rfl rfl).take 1 (cs' := [(iv .i64 v1.fKind)]) rfl)) ?_
  refine bindE h fun y3 ey3 h => ?_
  refine cq rfl rfl rfl (opCallQ (fnok58 H) (args := [(iv .i64 v1.fKind), (iv .i64 1), (iv .i64 5)]) ⟨EvF.of (mv rfl) FEnt.refl, EvF.of (Ev.const _) FEnt.refl, EvF.of (Ev.const _) FEnt.refl, trivial⟩ (ref08_between_ok H φ v1.fKind 1 5 _ ey3) flat_eqv) ?_
  refine cq rfl rfl rfl (opNot (mv rfl)) ?_
  refine cq rfl rfl rfl (opMove (mv rfl)) ?_
  refine cg rfl rfl rfl rfl rfl (fun g4 => opFieldP (fo77_1 H) (mv rfl)) ?_
  refine cg rfl rfl rfl rfl rfl (fun g5 => opLoad1 (tl3 H) ((Pt.box 0 (Ev.cnd (mv rfl) g5) rfl rfl).take 1 (cs' := [(iv .i64 v1.fRailway)]) rfl)) ?_
  refine bindE h fun y7 ey7 h => ?_
  refine cg rfl rfl rfl rfl rfl (fun g6 => opCallQ (fnok58 H) (args := [(iv .i64 v1.fRailway), (iv .i64 0), (iv .i64 15)]) ⟨EvF.of (Ev.cnd (mv rfl) g6) FEnt.refl, EvF.of (Ev.const _) FEnt.refl, EvF.of (Ev.const _) FEnt.refl, trivial⟩ (ref08_between_ok H φ v1.fRailway 0 15 _ (gcall_pos ey7 g6)) flat_eqv) ?_
  refine cg rfl rfl rfl rfl rfl (fun g8 => opNot (Ev.cnd (mv rfl) g8)) ?_
  refine cq rfl rfl rfl (opOr (mv rfl) (Ev.const _) (fun g9 => (Ev.cnd (mv rfl) g9))) ?_
  refine rn (al [1, 12] [0] rfl rfl rfl (sq ?_))
  refine CodeT.cond ((!y3) || (!y7)) (evBool (mv rfl)) (fun c10 => ?_) (fun c10 => ?_)
  · rw [if_pos c10] at h
    refine cs (cr [0] rfl ?_)
    refine cq rfl rfl rfl (opAssign (Ev.const _)) ?_
    refine rn (al [2] [] rfl rfl rfl (sq ?_))
    refine CodeT.ret ?_
    refine AtX.then_ret ?_
    refine AtX.ret' (bv false) (ResOK.one Try.results52 rfl) [] [] trivial rfl ?_
    obtain rfl := Option.some.inj h
    exact ⟨rfl, rfl⟩
  · rw [if_neg (bne_true c10)] at h
    refine CodeT.skip ?_
    refine al [1] [0] rfl rfl rfl ?_
    refine sq (cs (cs (cr [0, 1, 2] rfl ?_)))
    refine cq rfl rfl rfl (opFieldP (fo77_0 H) (mv rfl)) ?_
    refine cq rfl rfl rfl (opLoad1 (tl3 H) ((Pt.box 0 (mv rfl) rfl rfl).take 1 (cs' := [(iv .i64 v1.fKind)]) rfl)) ?_
    refine cq rfl rfl rfl (opEql (mv rfl) (Ev.const _)) ?_
    refine rn (al [1, 15] [0] rfl rfl rfl (sq ?_))
    refine CodeT.cond (v1.fKind == 3) (evBool (mv rfl)) (fun c11 => ?_) (fun c11 => ?_)
    · rw [if_pos c11] at h
      refine cs (cr [0, 1, 2, 3, 4, 5, 6, 7, 8, 9, 10] rfl ?_)
      refine cq rfl rfl rfl (opFieldP (fo77_2 H) (mv rfl)) ?_
      refine cq rfl rfl rfl (opLoad1 (tl3 H) ((Pt.box 0 (mv rfl) rfl rfl).take 1 (cs' := [(iv .i64 v1.fOther)]) rfl)) ?_
      refine bindE h fun y12 ey12 h => ?_
      refine cq rfl rfl rfl (opCallQ (fnok58 H) (args := [(iv .i64 v1.fOther), (iv .i64 0), (iv .i64 15)]) ⟨EvF.of (mv rfl) FEnt.refl, EvF.of (Ev.const _) FEnt.refl, EvF.of (Ev.const _) FEnt.refl, trivial⟩ (ref08_between_ok H φ v1.fOther 0 15 _ ey12) flat_eqv) ?_
      refine cq rfl rfl rfl (opMove (mv rfl)) ?_
      refine cg rfl rfl rfl rfl rfl (fun g13 => opFieldP (fo77_2 H) (mv rfl)) ?_
      refine cg rfl rfl rfl rfl rfl (fun g14 => opLoad1 (tl3 H) ((Pt.box 0 (Ev.cnd (mv rfl) g14) rfl rfl).take 1 (cs' := [(iv .i64 v1.fOther)]) rfl)) ?_
      refine cg rfl rfl rfl rfl rfl (fun g15 => opFieldP (fo77_1 H) (mv rfl)) ?_
      refine cg rfl rfl rfl rfl rfl (fun g16 => opLoad1 (tl3 H) ((Pt.box 0 (Ev.cnd (mv rfl) g16) rfl rfl).take 1 (cs' := [(iv .i64 v1.fRailway)]) rfl)) ?_
      refine cg rfl rfl rfl rfl rfl (fun g17 => opNeq (Ev.cnd (mv rfl) g17) (Ev.cnd (mv rfl) g17)) ?_
      refine cq rfl rfl rfl (opAnd (mv rfl) (fun g18 => (Ev.cnd (mv rfl) g18)) (Ev.const _)) ?_
      refine cq rfl rfl rfl (opAssign (mv rfl)) ?_
      refine rn (al [2] [] rfl rfl rfl (sq ?_))
      refine CodeT.ret ?_
      refine AtX.then_ret ?_
      refine AtX.ret' (bv (y12 && (v1.fOther != v1.fRailway))) (ResOK.one Try.results52 rfl) [] [] trivial rfl ?_
      obtain rfl := Option.some.inj h
      exact ⟨rfl, rfl⟩
    · rw [if_neg (bne_true c11)] at h
      refine CodeT.skip ?_
      refine al [1] [0] rfl rfl rfl ?_
      refine sq (cs (cr [0, 1, 2, 3] rfl ?_))
      refine cq rfl rfl rfl (opFieldP (fo77_2 H) (mv rfl)) ?_
      refine cq rfl rfl rfl (opLoad1 (tl3 H) ((Pt.box 0 (mv rfl) rfl rfl).take 1 (cs' := [(iv .i64 v1.fOther)]) rfl)) ?_
      refine cq rfl rfl rfl (opEql (mv rfl) (Ev.const _)) ?_
      refine cq rfl rfl rfl (opAssign (mv rfl)) ?_
      refine rn (al [2] [] rfl rfl rfl (sq ?_))
      refine CodeT.ret ?_
      refine AtX.ret' (bv (v1.fOther == (-1))) (ResOK.one Try.results52 rfl) [] [] trivial rfl ?_
      obtain rfl := Option.some.inj h
      exact ⟨rfl, rfl⟩
theorem ref08_line_ok {P : Program} (H : P = Try.prog) (φ : Nat) (v1 : Edge) (v2 : Int) (r : (Bool)) (h : ref08_line φ v1 v2 = some r) : PureT P 53 [(agg (eEdge v1)), (iv .i64 v2)] (fun x news => x = (bv r) ∧ news = []) := by
  unfold ref08_line at h
  refine PureT.of_code' 39 (fn53 H) rfl rfl (Nat.le_of_ble_eq_true rfl) fun w0 base r0 wI => ?_
  refine cl [0, 1] [] rfl rfl rfl ?_
  refine cs (cr [0, 1] rfl ?_)
  refine RunOps.cons rfl rfl rfl (opBox (cs := (eEdge v1)) (Ce.agg (mv rfl)) fun b3 => ?_)
  refine cq rfl rfl rfl (opAssign (Ev.const _)) ?_
  refine rn (al [1, 2] [0] rfl rfl rfl (sq (cs (cr [0, 1, 2, 3, 4, 5, 6, 7, 8, 9, 10, 11, 12, 13, 14, 15, 16, 17, 18, 19, 20, 21, 22, 23, 24, 25, 26, 27, 28, 29, 30, 31, 32, 33, 34] rfl ?_))))
  refine cq rfl rfl rfl (opFieldP (fo98_0 H) (mv rfl)) ?_
  refine cq rfl rfl rfl (opLoad1 (tl3 H) ((Pt.box 0 (mv rfl) rfl rfl).take 1 (cs' := [(iv .i64 v1.fA)]) rfl)) ?_
  refine cq rfl rfl rfl (opMove (mv rfl)) ?_
  refine cq rfl rfl rfl (opSub (mv rfl) (Ev.const _)) ?_
  refine bindE h fun y4 ey4 h => ?_
  refine cq rfl rfl rfl (opCallQ (fnok58 H) (args := [(iv .i64 v1.fA), (iv .i64 0), (iv .i64 (W (v2 - 1)))]) ⟨EvF.of (mv rfl) FEnt.refl, EvF.of (Ev.const _) FEnt.refl, EvF.of (mv rfl) FEnt.refl, trivial⟩ (ref08_between_ok H φ v1.fA 0 (W (v2 - 1)) _ ey4) flat_eqv) ?_
  refine cq rfl rfl rfl (opMove (mv rfl)) ?_
  refine cg rfl rfl rfl rfl rfl (fun g5 => opFieldP (fo98_1 H) (mv rfl)) ?_
  refine cg rfl rfl rfl rfl rfl (fun g6 => opLoad1 (tl3 H) ((Pt.box 0 (Ev.cnd (mv rfl) g6) rfl rfl).take 1 (cs' := [(iv .i64 v1.fB)]) rfl)) ?_
  refine cg rfl rfl rfl rfl rfl (fun g7 => opMove (mv rfl)) ?_
  refine cg rfl rfl rfl rfl rfl (fun g8 => opSub (Ev.cnd (mv rfl) g8) (Ev.const _)) ?_
  refine bindE h fun y10 ey10 h => ?_
  refine cg rfl rfl rfl rfl rfl (fun g9 => opCallQ (fnok58 H) (args := [(iv .i64 v1.fB), (iv .i64 0), (iv .i64 (W (v2 - 1)))]) ⟨EvF.of (Ev.cnd (mv rfl) g9) FEnt.refl, EvF.of (Ev.const _) FEnt.refl, EvF.of (Ev.cnd (mv rfl) g9) FEnt.refl, trivial⟩ (ref08_between_ok H φ v1.fB 0 (W (v2 - 1)) _ (gcall_pos ey10 g9)) flat_eqv) ?_
  refine cq rfl rfl rfl (opAnd (mv rfl) (fun g11 => (Ev.cnd (mv rfl) g11)) (Ev.const _)) ?_
  refine cq rfl rfl rfl (opMove (mv rfl)) ?_
  refine cg rfl rfl rfl rfl rfl (fun g12 => opFieldP (fo98_0 H) (mv rfl)) ?_
  refine cg rfl rfl rfl rfl rfl (fun g13 => opLoad1 (tl3 H) ((Pt.box 0 (Ev.cnd (mv rfl) g13) rfl rfl).take 1 (cs' := [(iv .i64 v1.fA)]) rfl)) ?_
  refine cg rfl rfl rfl rfl rfl (fun g14 => opFieldP (fo98_1 H) (mv rfl)) ?_
  refine cg rfl rfl rfl rfl rfl (fun g15 => opLoad1 (tl3 H) ((Pt.box 0 (Ev.cnd (mv rfl) g15) rfl rfl).take 1 (cs' := [(iv .i64 v1.fB)]) rfl)) ?_
  refine cg rfl rfl rfl rfl rfl (fun g16 => opNeq (Ev.cnd (mv rfl) g16) (Ev.cnd (mv rfl) g16)) ?_
  refine cq rfl rfl rfl (opAnd (mv rfl) (fun g17 => (Ev.cnd (mv rfl) g17)) (Ev.const _)) ?_
  refine cq rfl rfl rfl (opMove (mv rfl)) ?_
  refine cg rfl rfl rfl rfl rfl (fun g18 => opFieldP (fo98_2 H) (mv rfl)) ?_
  refine cg rfl rfl rfl rfl rfl (fun g19 => opLoad1 (tl3 H) ((Pt.box 0 (Ev.cnd (mv rfl) g19) rfl rfl).take 1 (cs' := [(iv .i64 v1.fRailway)]) rfl)) ?_
  refine bindE h fun y21 ey21 h => ?_
  refine cg rfl rfl rfl rfl rfl (fun g20 => opCallQ (fnok58 H) (args := [(iv .i64 v1.fRailway), (iv .i64 0), (iv .i64 15)]) ⟨EvF.of (Ev.cnd (mv rfl) g20) FEnt.refl, EvF.of (Ev.const _) FEnt.refl, EvF.of (Ev.const _) FEnt.refl, trivial⟩ (ref08_between_ok H φ v1.fRailway 0 15 _ (gcall_pos ey21 g20)) flat_eqv) ?_
  refine cq rfl rfl rfl (opAnd (mv rfl) (fun g22 => (Ev.cnd (mv rfl) g22)) (Ev.const _)) ?_
  refine cq rfl rfl rfl (opMove (mv rfl)) ?_
  refine cg rfl rfl rfl rfl rfl (fun g23 => opFieldP (fo98_3 H) (mv rfl)) ?_
  refine cg rfl rfl rfl rfl rfl (fun g24 => opLoad1 (tl3 H) ((Pt.box 0 (Ev.cnd (mv rfl) g24) rfl rfl).take 1 (cs' := [(iv .i64 v1.fMinutes)]) rfl)) ?_
  refine bindE h fun y26 ey26 h => ?_
  refine cg rfl rfl rfl rfl rfl (fun g25 => opCallQ (fnok58 H) (args := [(iv .i64 v1.fMinutes), (iv .i64 1), (iv .i64 100000)]) ⟨EvF.of (Ev.cnd (mv rfl) g25) FEnt.refl, EvF.of (Ev.const _) FEnt.refl, EvF.of (Ev.const _) FEnt.refl, trivial⟩ (ref08_between_ok H φ v1.fMinutes 1 100000 _ (gcall_pos ey26 g25)) flat_eqv) ?_
  refine cq rfl rfl rfl (opAnd (mv rfl) (fun g27 => (Ev.cnd (mv rfl) g27)) (Ev.const _)) ?_
  refine cq rfl rfl rfl (opMove (mv rfl)) ?_
  refine cg rfl rfl rfl rfl rfl (fun g28 => opFieldP (fo98_4 H) (mv rfl)) ?_
  refine cg rfl rfl rfl rfl rfl (fun g29 => opLoad1 (tl3 H) ((Pt.box 0 (Ev.cnd (mv rfl) g29) rfl rfl).take 1 (cs' := [(iv .i64 v1.fKm)]) rfl)) ?_
  refine bindE h fun y31 ey31 h => ?_
  refine cg rfl rfl rfl rfl rfl (fun g30 => opCallQ (fnok58 H) (args := [(iv .i64 v1.fKm), (iv .i64 0), (iv .i64 10000)]) ⟨EvF.of (Ev.cnd (mv rfl) g30) FEnt.refl, EvF.of (Ev.const _) FEnt.refl, EvF.of (Ev.const _) FEnt.refl, trivial⟩ (ref08_between_ok H φ v1.fKm 0 10000 _ (gcall_pos ey31 g30)) flat_eqv) ?_
  refine cq rfl rfl rfl (opAnd (mv rfl) (fun g32 => (Ev.cnd (mv rfl) g32)) (Ev.const _)) ?_
  refine cq rfl rfl rfl (opAssign (mv rfl)) ?_
  refine rn (al [4] [] rfl rfl rfl (sq ?_))
  refine CodeT.ret ?_
  refine AtX.ret' (bv (((((y4 && y10) && (v1.fA != v1.fB)) && y21) && y26) && y31)) (ResOK.one Try.results53 rfl) [] [] trivial rfl ?_
  obtain rfl := Option.some.inj h
  exact ⟨rfl, rfl⟩
theorem ref07_Least_ok {P : Program} (H : P = Try.prog) (φ : Nat) (v1 : Int) (v2 : Int) (r : (Int)) (h : ref07_Least φ v1 v2 = some r) : PureT P 50 [(iv .i64 v1), (iv .i64 v2)] (fun x news => x = (iv .i64 r) ∧ news = []) := by
  unfold ref07_Least at h
  refine PureT.of_code' 10 (fn50 H) rfl rfl (Nat.le_of_ble_eq_true rfl) fun w0 base r0 wI => ?_
  refine cl [0, 1] [] rfl rfl rfl ?_
  refine cs (cr [0] rfl ?_)
  refine cq rfl rfl rfl (opAssign (Ev.const _)) ?_
  refine rn (al [0, 1] [] rfl rfl rfl (sq (cs (cr [0, 1, 2, 3, 4, 5] rfl ?_))))
  refine cq rfl rfl rfl (opMove (mv rfl)) ?_
  refine cq rfl rfl rfl (opMove (mv rfl)) ?_
  refine cq rfl rfl rfl (opMul (mv rfl) (mv rfl)) ?_
  refine cq rfl rfl rfl (opAdd (mv rfl) (Ev.const _)) ?_
  refine cq rfl rfl rfl (opQuo (mv rfl) (Ev.const _) (by decide)) ?_
  refine cq rfl rfl rfl (opAssign (mv rfl)) ?_
  refine rn (al [4] [] rfl rfl rfl (sq ?_))
  refine CodeT.ret ?_
  refine AtX.ret' (iv .i64 (W ((W ((W (v1 * v2)) + 99)).tdiv 100))) (ResOK.one Try.results50 rfl) [] [] trivial rfl ?_
  obtain rfl := Option.some.inj h
  exact ⟨rfl, rfl⟩
theorem ref07_MulDiv_ok {P : Program} (H : P = Try.prog) (φ : Nat) (v1 : Int) (v2 : Int) (v3 : Int) (r : (Int × Int)) (h : ref07_MulDiv φ v1 v2 v3 = some r) : PureT P 51 [(iv .i64 v1), (iv .i64 v2), (iv .i64 v3)] (fun x news => x = tupv [(iv .i64 r.1), (iv .i64 r.2)] ∧ news = []) := by
  unfold ref07_MulDiv at h
  refine PureT.of_code' 36 (fn51 H) rfl rfl (Nat.le_of_ble_eq_true rfl) fun w0 base r0 wI => ?_
  refine cl [0, 1, 2] [] rfl rfl rfl ?_
  refine cs (cr [0, 1] rfl ?_)
  refine cq rfl rfl rfl (opAssign (Ev.const _)) ?_
  refine cq rfl rfl rfl (opAssign (Ev.const _)) ?_
  refine rn (al [0, 1, 2] [] rfl rfl rfl (sq (cs (cr [0] rfl ?_))))
  refine cq rfl rfl rfl (opAssign (Ev.const _)) ?_
  refine rn (al [0, 1, 2, 8] [] rfl rfl rfl (sq (cs (cr [0] rfl ?_))))
  refine cq rfl rfl rfl (opAssign (Ev.const _)) ?_
  refine rn (al [0, 1, 2, 8, 9] [] rfl rfl rfl (sq (cs (cs (cr [0] rfl ?_)))))
  refine cq rfl rfl rfl (opAssign (Ev.const _)) ?_
  refine rn (al [0, 1, 2, 8, 9, 10] [] rfl rfl rfl (sq ?_))
  refine CodeT.join (fun z : Int × Int => (ref07_MulDiv_j6 φ) z.1 z.2) r (fun z => ⟨Slots.of [(8, (iv .i64 z.1)), (9, (iv .i64 z.2))], []⟩) (fun z h => ?_) (fun hJ6 => ?_)
  · obtain ⟨v4, v5⟩ := z
    replace h : (ref07_MulDiv_j6 φ) v4 v5 = some r := h
    unfold ref07_MulDiv_j6 at h
    refine al [8, 9] [] rfl rfl rfl ?_
    refine sq (cs (cr [0, 1, 2, 3] rfl ?_))
    refine cq rfl rfl rfl (opMove (mv rfl)) ?_
    refine cq rfl rfl rfl (opMove (mv rfl)) ?_
    refine cq rfl rfl rfl (opAssign (mv rfl)) ?_
    refine cq rfl rfl rfl (opAssign (mv rfl)) ?_
    refine rn (al [6, 7] [] rfl rfl rfl (sq ?_))
    refine CodeT.ret ?_
    refine AtX.ret' (tupv [(iv .i64 v4), (iv .i64 v5)]) (ResOK.two Try.results51 rfl rfl) [] [] trivial rfl ?_
    obtain rfl := Option.some.inj h
    exact ⟨rfl, rfl⟩
  · refine CodeT.block ?_
    refine CodeT.to (CodeT.loop (fun n (z : Int × Int × Int) => ref07_MulDiv_L10 φ v1 v2 v3 (ref07_MulDiv_j6 φ) n z.1 z.2.1 z.2.2) r (fun z => ⟨Slots.of [(0, (iv .i64 v1)), (1, (iv .i64 v2)), (2, (iv .i64 v3)), (8, (iv .i64 z.1)), (9, (iv .i64 z.2.1)), (10, (iv .i64 z.2.2))], []⟩) (fun z => rfl) (fun n10 z ih10 h => ?_) φ (0, 0, 53) h) [] (sl rfl) trivial rfl
    obtain ⟨v7, v8, v9⟩ := z
    replace h : ref07_MulDiv_L10 φ v1 v2 v3 (ref07_MulDiv_j6 φ) (n10 + 1) v7 v8 v9 = some r := h
    rw [ref07_MulDiv_L10] at h
    refine cs (cs (cr [0, 1] rfl ?_))
    refine cq rfl rfl rfl (opMove (mv rfl)) ?_
    refine cq rfl rfl rfl (opGeq (mv rfl) (Ev.const _)) ?_
    refine rn (al [0, 1, 2, 8, 9, 10, 12] [] rfl rfl rfl (sq ?_))
    refine CodeT.cond (decide (0 ≤ v9)) (evBool (mv rfl)) (fun c11 => ?_) (fun c11 => ?_)
    · rw [if_pos c11] at h
      refine CodeT.skip ?_
      refine al [0, 1, 2, 8, 9, 10] [] rfl rfl rfl ?_
      refine sq (cs ?_)
      refine CodeT.block ?_
      refine cs (cr [0, 1, 2] rfl ?_)
      refine cq rfl rfl rfl (opMove (mv rfl)) ?_
      refine cq rfl rfl rfl (opMul (Ev.const _) (mv rfl)) ?_
      refine cq rfl rfl rfl (opAssign (mv rfl)) ?_
      refine rn (al [0, 1, 2, 8, 9, 10] [] rfl rfl rfl (sq (cs (cs (cr [0, 1, 2, 3, 4] rfl ?_)))))
      refine cq rfl rfl rfl (opMove (mv rfl)) ?_
      refine cq rfl rfl rfl (opMove (mv rfl)) ?_
      refine ckE h fun h12 h => ?_
      refine cq rfl rfl rfl (opShr (mv rfl) (mv rfl) h12) ?_
      refine cq rfl rfl rfl (opRem (mv rfl) (Ev.const _) (by decide)) ?_
      refine cq rfl rfl rfl (opEql (mv rfl) (Ev.const _)) ?_
      refine rn (al [0, 1, 2, 8, 9, 10, 21] [] rfl rfl rfl (sq ?_))
      refine CodeT.join (fun z : Int => (ref07_MulDiv_j14 φ v3 v7 v9 (ref07_MulDiv_L10 φ v1 v2 v3 (ref07_MulDiv_j6 φ) n10)) z) r (fun z => ⟨Slots.of [(0, (iv .i64 v1)), (1, (iv .i64 v2)), (2, (iv .i64 v3)), (8, (iv .i64 v7)), (9, (iv .i64 z)), (10, (iv .i64 v9))], []⟩) (fun v13 h => ?_) (fun hJ14 => ?_)
      · replace h : (ref07_MulDiv_j14 φ v3 v7 v9 (ref07_MulDiv_L10 φ v1 v2 v3 (ref07_MulDiv_j6 φ) n10)) v13 = some r := h
        unfold ref07_MulDiv_j14 at h
        refine al [0, 1, 2, 8, 9, 10] [] rfl rfl rfl ?_
        refine sq (cs (cr [0, 1, 2, 3, 4, 5, 6] rfl ?_))
        refine cq rfl rfl rfl (opMove (mv rfl)) ?_
        refine cq rfl rfl rfl (opMul (Ev.const _) (mv rfl)) ?_
        refine cq rfl rfl rfl (opMove (mv rfl)) ?_
        refine cq rfl rfl rfl (opMove (mv rfl)) ?_
        refine ckE h fun h15 h => ?_
        refine cq rfl rfl rfl (opQuo (mv rfl) (mv rfl) h15) ?_
        refine cq rfl rfl rfl (opAdd (mv rfl) (mv rfl)) ?_
        refine cq rfl rfl rfl (opAssign (mv rfl)) ?_
        refine rn (al [0, 1, 2, 8, 9, 10] [] rfl rfl rfl (sq (cr [0, 1, 2, 3] rfl ?_)))
        refine cq rfl rfl rfl (opMove (mv rfl)) ?_
        refine cq rfl rfl rfl (opMove (mv rfl)) ?_
        refine cq rfl rfl rfl (opRem (mv rfl) (mv rfl) h15) ?_
        refine cq rfl rfl rfl (opAssign (mv rfl)) ?_
        refine rn ?_
        refine AtX.in_normal ?_
        refine al [0, 1, 2, 8, 9, 10] [] rfl rfl rfl ?_
        refine sq (cr [0, 1, 2] rfl ?_)
        refine cq rfl rfl rfl (opMove (mv rfl)) ?_
        refine cq rfl rfl rfl (opSub (mv rfl) (Ev.const _)) ?_
        refine cq rfl rfl rfl (opAssign (mv rfl)) ?_
        refine rn ?_
        exact AtX.to (ih10 ((W ((W (2 * v7)) + (W (v13.tdiv v3)))), (v13.tmod v3), (W (v9 - 1))) h) [] (sl rfl) trivial rfl
      · refine CodeT.cond (((v1.fdiv (2 ^ (min (v9 : Int).toNat (IntKind.bits .i64)))).tmod 2) == 1) (evBool (mv rfl)) (fun c16 => ?_) (fun c16 => ?_)
        · rw [if_pos c16] at h
          refine cr [0, 1, 2, 3] rfl ?_
          refine cq rfl rfl rfl (opMove (mv rfl)) ?_
          refine cq rfl rfl rfl (opMove (mv rfl)) ?_
          refine cq rfl rfl rfl (opAdd (mv rfl) (mv rfl)) ?_
          refine cq rfl rfl rfl (opAssign (mv rfl)) ?_
          refine rn ?_
          exact AtX.to (hJ14 (W ((W (2 * v8)) + v2)) h) [] (sl rfl) trivial rfl
        · rw [if_neg (bne_true c16)] at h
          refine CodeT.skip ?_
          exact AtX.to (hJ14 (W (2 * v8)) h) [] (sl rfl) trivial rfl
    · rw [if_neg (bne_true c11)] at h
      refine CodeT.exit ?_
      refine AtX.then_exit ?_
      refine AtX.then_exit ?_
      refine AtX.in_hit ?_
      exact AtX.to (hJ6 (v7, v8) h) [] (sl rfl) trivial rfl
theorem ref09_validType_ok {P : Program} (H : P = Try.prog) (φ : Nat) (v1 : WagonType) (r : (Bool)) (h : ref09_validType φ v1 = some r) : PureT P 37 [(agg (eWagonType v1))] (fun x news => x = (bv r) ∧ news = []) := by
  unfold ref09_validType at h
  refine PureT.of_code' 36 (fn37 H) rfl rfl (Nat.le_of_ble_eq_true rfl) fun w0 base r0 wI => ?_
  refine cl [0] [] rfl rfl rfl ?_
  refine cs (cr [0, 1] rfl ?_)
  refine RunOps.cons rfl rfl rfl (opBox (cs := (eWagonType v1)) (Ce.agg (mv rfl)) fun b2 => ?_)
  refine cq rfl rfl rfl (opAssign (Ev.const _)) ?_
  refine rn (al [1] [0] rfl rfl rfl (sq (cs (cr [0, 1, 2, 3, 4, 5, 6, 7, 8, 9, 10, 11, 12, 13, 14, 15, 16, 17, 18, 19, 20, 21, 22, 23, 24, 25, 26, 27, 28, 29, 30, 31, 32, 33] rfl ?_))))
  refine cq rfl rfl rfl (opFieldP (fo50_0 H) (mv rfl)) ?_
  refine cq rfl rfl rfl (opLoad1 (tl3 H) ((Pt.box 0 (mv rfl) rfl rfl).take 1 (cs' := [(iv .i64 v1.fLoad)]) rfl)) ?_
  refine bindE h fun y3 ey3 h => ?_
  refine cq rfl rfl rfl (opCallQ (fnok30 H) (args := [(iv .i64 v1.fLoad), (iv .i64 0), (iv .i64 1000000)]) ⟨EvF.of (mv rfl) FEnt.refl, EvF.of (Ev.const _) FEnt.refl, EvF.of (Ev.const _) FEnt.refl, trivial⟩ (ref09_within_ok H φ v1.fLoad 0 1000000 _ ey3) flat_eqv) ?_
  refine cq rfl rfl rfl (opMove (mv rfl)) ?_
  refine cg rfl rfl rfl rfl rfl (fun g4 => opFieldP (fo50_1 H) (mv rfl)) ?_
  refine cg rfl rfl rfl rfl rfl (fun g5 => opLoad1 (tl3 H) ((Pt.box 0 (Ev.cnd (mv rfl) g5) rfl rfl).take 1 (cs' := [(iv .i64 v1.fTare)]) rfl)) ?_
  refine bindE h fun y7 ey7 h => ?_
  refine cg rfl rfl rfl rfl rfl (fun g6 => opCallQ (fnok30 H) (args := [(iv .i64 v1.fTare), (iv .i64 0), (iv .i64 1000000)]) ⟨EvF.of (Ev.cnd (mv rfl) g6) FEnt.refl, EvF.of (Ev.const _) FEnt.refl, EvF.of (Ev.const _) FEnt.refl, trivial⟩ (ref09_within_ok H φ v1.fTare 0 1000000 _ (gcall_pos ey7 g6)) flat_eqv) ?_
  refine cq rfl rfl rfl (opAnd (mv rfl) (fun g8 => (Ev.cnd (mv rfl) g8)) (Ev.const _)) ?_
  refine cq rfl rfl rfl (opMove (mv rfl)) ?_
  refine cg rfl rfl rfl rfl rfl (fun g9 => opFieldP (fo50_2 H) (mv rfl)) ?_
  refine cg rfl rfl rfl rfl rfl (fun g10 => opLoad1 (tl3 H) ((Pt.box 0 (Ev.cnd (mv rfl) g10) rfl rfl).take 1 (cs' := [(iv .i64 v1.fLength)]) rfl)) ?_
  refine bindE h fun y12 ey12 h => ?_
  refine cg rfl rfl rfl rfl rfl (fun g11 => opCallQ (fnok30 H) (args := [(iv .i64 v1.fLength), (iv .i64 0), (iv .i64 1000000)]) ⟨EvF.of (Ev.cnd (mv rfl) g11) FEnt.refl, EvF.of (Ev.const _) FEnt.refl, EvF.of (Ev.const _) FEnt.refl, trivial⟩ (ref09_within_ok H φ v1.fLength 0 1000000 _ (gcall_pos ey12 g11)) flat_eqv) ?_
  refine cq rfl rfl rfl (opAnd (mv rfl) (fun g13 => (Ev.cnd (mv rfl) g13)) (Ev.const _)) ?_
  refine cq rfl rfl rfl (opMove (mv rfl)) ?_
  refine cg rfl rfl rfl rfl rfl (fun g14 => opFieldP (fo50_4 H) (mv rfl)) ?_
  refine cg rfl rfl rfl rfl rfl (fun g15 => opLoad1 (tl3 H) ((Pt.box 0 (Ev.cnd (mv rfl) g15) rfl rfl).take 1 (cs' := [(iv .i64 v1.fBrake)]) rfl)) ?_
  refine bindE h fun y17 ey17 h => ?_
  refine cg rfl rfl rfl rfl rfl (fun g16 => opCallQ (fnok30 H) (args := [(iv .i64 v1.fBrake), (iv .i64 0), (iv .i64 1000000)]) ⟨EvF.of (Ev.cnd (mv rfl) g16) FEnt.refl, EvF.of (Ev.const _) FEnt.refl, EvF.of (Ev.const _) FEnt.refl, trivial⟩ (ref09_within_ok H φ v1.fBrake 0 1000000 _ (gcall_pos ey17 g16)) flat_eqv) ?_
  refine cq rfl rfl rfl (opAnd (mv rfl) (fun g18 => (Ev.cnd (mv rfl) g18)) (Ev.const _)) ?_
  refine cq rfl rfl rfl (opMove (mv rfl)) ?_
  refine cg rfl rfl rfl rfl rfl (fun g19 => opFieldP (fo50_3 H) (mv rfl)) ?_
  refine cg rfl rfl rfl rfl rfl (fun g20 => opLoad1 (tl3 H) ((Pt.box 0 (Ev.cnd (mv rfl) g20) rfl rfl).take 1 (cs' := [(iv .i64 v1.fGauge)]) rfl)) ?_
  refine bindE h fun y22 ey22 h => ?_
  refine cg rfl rfl rfl rfl rfl (fun g21 => opCallQ (fnok30 H) (args := [(iv .i64 v1.fGauge), (iv .i64 0), (iv .i64 7)]) ⟨EvF.of (Ev.cnd (mv rfl) g21) FEnt.refl, EvF.of (Ev.const _) FEnt.refl, EvF.of (Ev.const _) FEnt.refl, trivial⟩ (ref09_within_ok H φ v1.fGauge 0 7 _ (gcall_pos ey22 g21)) flat_eqv) ?_
  refine cq rfl rfl rfl (opAnd (mv rfl) (fun g23 => (Ev.cnd (mv rfl) g23)) (Ev.const _)) ?_
  refine cq rfl rfl rfl (opMove (mv rfl)) ?_
  refine cg rfl rfl rfl rfl rfl (fun g24 => opFieldP (fo50_6 H) (mv rfl)) ?_
  refine cg rfl rfl rfl rfl rfl (fun g25 => opLoad1 (tl3 H) ((Pt.box 0 (Ev.cnd (mv rfl) g25) rfl rfl).take 1 (cs' := [(iv .i64 v1.fLife)]) rfl)) ?_
  refine bindE h fun y27 ey27 h => ?_
  refine cg rfl rfl rfl rfl rfl (fun g26 => opCallQ (fnok30 H) (args := [(iv .i64 v1.fLife), (iv .i64 1), (iv .i64 1073741824)]) ⟨EvF.of (Ev.cnd (mv rfl) g26) FEnt.refl, EvF.of (Ev.const _) FEnt.refl, EvF.of (Ev.const _) FEnt.refl, trivial⟩ (ref09_within_ok H φ v1.fLife 1 1073741824 _ (gcall_pos ey27 g26)) flat_eqv) ?_
  refine cq rfl rfl rfl (opAnd (mv rfl) (fun g28 => (Ev.cnd (mv rfl) g28)) (Ev.const _)) ?_
  refine cq rfl rfl rfl (opMove (mv rfl)) ?_
  refine cg rfl rfl rfl rfl rfl (fun g29 => opFieldP (fo50_7 H) (mv rfl)) ?_
  refine cg rfl rfl rfl rfl rfl (fun g30 => opLoad1 (tl3 H) ((Pt.box 0 (Ev.cnd (mv rfl) g30) rfl rfl).take 1 (cs' := [(iv .i64 v1.fFloor)]) rfl)) ?_
  refine bindE h fun y32 ey32 h => ?_
  refine cg rfl rfl rfl rfl rfl (fun g31 => opCallQ (fnok30 H) (args := [(iv .i64 v1.fFloor), (iv .i64 0), (iv .i64 100)]) ⟨EvF.of (Ev.cnd (mv rfl) g31) FEnt.refl, EvF.of (Ev.const _) FEnt.refl, EvF.of (Ev.const _) FEnt.refl, trivial⟩ (ref09_within_ok H φ v1.fFloor 0 100 _ (gcall_pos ey32 g31)) flat_eqv) ?_
  refine cq rfl rfl rfl (opAnd (mv rfl) (fun g33 => (Ev.cnd (mv rfl) g33)) (Ev.const _)) ?_
  refine cq rfl rfl rfl (opAssign (mv rfl)) ?_
  refine rn (al [2] [] rfl rfl rfl (sq ?_))
  refine CodeT.ret ?_
  refine AtX.ret' (bv ((((((y3 && y7) && y12) && y17) && y22) && y27) && y32)) (ResOK.one Try.results37 rfl) [] [] trivial rfl ?_
  obtain rfl := Option.some.inj h
  exact ⟨rfl, rfl⟩
theorem ref09_validWagon_ok {P : Program} (H : P = Try.prog) (φ : Nat) (v1 : Wagon) (v2 : Int) (r : (Bool)) (h : ref09_validWagon φ v1 v2 = some r) : PureT P 38 [(agg (eWagon v1)), (iv .i64 v2)] (fun x news => x = (bv r) ∧ news = []) := by
  unfold ref09_validWagon at h
  refine PureT.of_code' 30 (fn38 H) rfl rfl (Nat.le_of_ble_eq_true rfl) fun w0 base r0 wI => ?_
  refine cl [0, 1] [] rfl rfl rfl ?_
  refine cs (cr [0, 1] rfl ?_)
  refine RunOps.cons rfl rfl rfl (opBox (cs := (eWagon v1)) (Ce.agg (mv rfl)) fun b3 => ?_)
  refine cq rfl rfl rfl (opAssign (Ev.const _)) ?_
  refine rn (al [1, 2] [0] rfl rfl rfl (sq (cs (cr [0, 1, 2, 3, 4, 5, 6, 7, 8, 9, 10, 11, 12, 13, 14, 15, 16, 17, 18, 19, 20, 21, 22, 23, 24, 25] rfl ?_))))
  refine cq rfl rfl rfl (opFieldP (fo47_0 H) (mv rfl)) ?_
  refine cq rfl rfl rfl (opLoad1 (tl3 H) ((Pt.box 0 (mv rfl) rfl rfl).take 1 (cs' := [(iv .i64 v1.fType)]) rfl)) ?_
  refine cq rfl rfl rfl (opMove (mv rfl)) ?_
  refine cq rfl rfl rfl (opSub (mv rfl) (Ev.const _)) ?_
  refine bindE h fun y4 ey4 h => ?_
  refine cq rfl rfl rfl (opCallQ (fnok30 H) (args := [(iv .i64 v1.fType), (iv .i64 0), (iv .i64 (W (v2 - 1)))]) ⟨EvF.of (mv rfl) FEnt.refl, EvF.of (Ev.const _) FEnt.refl, EvF.of (mv rfl) FEnt.refl, trivial⟩ (ref09_within_ok H φ v1.fType 0 (W (v2 - 1)) _ ey4) flat_eqv) ?_
  refine cq rfl rfl rfl (opMove (mv rfl)) ?_
  refine cg rfl rfl rfl rfl rfl (fun g5 => opFieldP (fo47_1 H) (mv rfl)) ?_
  refine cg rfl rfl rfl rfl rfl (fun g6 => opLoad1 (tl3 H) ((Pt.box 0 (Ev.cnd (mv rfl) g6) rfl rfl).take 1 (cs' := [(iv .i64 v1.fOwner)]) rfl)) ?_
  refine bindE h fun y8 ey8 h => ?_
  refine cg rfl rfl rfl rfl rfl (fun g7 => opCallQ (fnok30 H) (args := [(iv .i64 v1.fOwner), (iv .i64 0), (iv .i64 63)]) ⟨EvF.of (Ev.cnd (mv rfl) g7) FEnt.refl, EvF.of (Ev.const _) FEnt.refl, EvF.of (Ev.const _) FEnt.refl, trivial⟩ (ref09_within_ok H φ v1.fOwner 0 63 _ (gcall_pos ey8 g7)) flat_eqv) ?_
  refine cq rfl rfl rfl (opAnd (mv rfl) (fun g9 => (Ev.cnd (mv rfl) g9)) (Ev.const _)) ?_
  refine cq rfl rfl rfl (opMove (mv rfl)) ?_
  refine cg rfl rfl rfl rfl rfl (fun g10 => opFieldP (fo47_2 H) (mv rfl)) ?_
  refine cg rfl rfl rfl rfl rfl (fun g11 => opLoad1 (tl3 H) ((Pt.box 0 (Ev.cnd (mv rfl) g11) rfl rfl).take 1 (cs' := [(iv .i64 v1.fHome)]) rfl)) ?_
  refine bindE h fun y13 ey13 h => ?_
  refine cg rfl rfl rfl rfl rfl (fun g12 => opCallQ (fnok30 H) (args := [(iv .i64 v1.fHome), (iv .i64 0), (iv .i64 511)]) ⟨EvF.of (Ev.cnd (mv rfl) g12) FEnt.refl, EvF.of (Ev.const _) FEnt.refl, EvF.of (Ev.const _) FEnt.refl, trivial⟩ (ref09_within_ok H φ v1.fHome 0 511 _ (gcall_pos ey13 g12)) flat_eqv) ?_
  refine cq rfl rfl rfl (opAnd (mv rfl) (fun g14 => (Ev.cnd (mv rfl) g14)) (Ev.const _)) ?_
  refine cq rfl rfl rfl (opMove (mv rfl)) ?_
  refine cg rfl rfl rfl rfl rfl (fun g15 => opFieldP (fo47_3 H) (mv rfl)) ?_
  refine cg rfl rfl rfl rfl rfl (fun g16 => opLoad1 (tl3 H) ((Pt.box 0 (Ev.cnd (mv rfl) g16) rfl rfl).take 1 (cs' := [(iv .i64 v1.fBuilt)]) rfl)) ?_
  refine bindE h fun y18 ey18 h => ?_
  refine cg rfl rfl rfl rfl rfl (fun g17 => opCallQ (fnok30 H) (args := [(iv .i64 v1.fBuilt), (iv .i64 0), (iv .i64 1073741824)]) ⟨EvF.of (Ev.cnd (mv rfl) g17) FEnt.refl, EvF.of (Ev.const _) FEnt.refl, EvF.of (Ev.const _) FEnt.refl, trivial⟩ (ref09_within_ok H φ v1.fBuilt 0 1073741824 _ (gcall_pos ey18 g17)) flat_eqv) ?_
  refine cq rfl rfl rfl (opAnd (mv rfl) (fun g19 => (Ev.cnd (mv rfl) g19)) (Ev.const _)) ?_
  refine cq rfl rfl rfl (opMove (mv rfl)) ?_
  refine cg rfl rfl rfl rfl rfl (fun g20 => opFieldP (fo47_4 H) (mv rfl)) ?_
  refine cg rfl rfl rfl rfl rfl (fun g21 => opLoad1 (tl3 H) ((Pt.box 0 (Ev.cnd (mv rfl) g21) rfl rfl).take 1 (cs' := [(iv .i64 v1.fWorth)]) rfl)) ?_
  refine bindE h fun y23 ey23 h => ?_
  refine cg rfl rfl rfl rfl rfl (fun g22 => opCallQ (fnok30 H) (args := [(iv .i64 v1.fWorth), (iv .i64 0), (iv .i64 1099511627776)]) ⟨EvF.of (Ev.cnd (mv rfl) g22) FEnt.refl, EvF.of (Ev.const _) FEnt.refl, EvF.of (Ev.const _) FEnt.refl, trivial⟩ (ref09_within_ok H φ v1.fWorth 0 1099511627776 _ (gcall_pos ey23 g22)) flat_eqv) ?_
  refine cq rfl rfl rfl (opAnd (mv rfl) (fun g24 => (Ev.cnd (mv rfl) g24)) (Ev.const _)) ?_
  refine cq rfl rfl rfl (opAssign (mv rfl)) ?_
  refine rn (al [4] [] rfl rfl rfl (sq ?_))
  refine CodeT.ret ?_
  refine AtX.ret' (bv ((((y4 && y8) && y13) && y18) && y23)) (ResOK.one Try.results38 rfl) [] [] trivial rfl ?_
  obtain rfl := Option.some.inj h
  exact ⟨rfl, rfl⟩
theorem network_Check_ok {P : Program} (H : P = Try.prog) (φ : Nat) (v1 : Network) (r : (Int)) (h : network_Check φ v1 = some r) : PureT P 25 [(agg (eNetwork v1))] (fun x news => x = (iv .i64 r) ∧ news = []) := by
  unfold network_Check at h
  refine PureT.of_code' 84 (fn25 H) rfl rfl (Nat.le_of_ble_eq_true rfl) fun w0 base r0 wI => ?_
  refine cl [0] [] rfl rfl rfl ?_
  refine cs (cr [0, 1] rfl ?_)
  refine RunOps.cons rfl rfl rfl (opBox (cs := (eNetwork v1)) (Ce.agg (mv rfl)) fun b2 => ?_)
  refine cq rfl rfl rfl (opAssign (Ev.const _)) ?_
  refine rn (al [1] [0] rfl rfl rfl (sq (cs (cr [0, 1, 2, 3] rfl ?_))))
  refine cq rfl rfl rfl (opFieldP (fo56_0 H) (mv rfl)) ?_
  refine cq rfl rfl rfl (opLoad1 (tl53 H) ((Pt.box 0 (mv rfl) rfl rfl).take 1 (cs' := [(ro ePlace 3 v1.fPlaces)]) rfl)) ?_
  refine cq rfl rfl rfl (opLenR (il53 H) (mv rfl)) ?_
  refine cq rfl rfl rfl (opAssign (mv rfl)) ?_
  refine rn (al [1, 3] [0] rfl rfl rfl (sq (cs (cs (cr [0, 1, 2, 3, 4, 5, 6, 7] rfl ?_)))))
  refine cq rfl rfl rfl (opMove (mv rfl)) ?_
  refine cq rfl rfl rfl (opGtr (mv rfl) (Ev.const _)) ?_
  refine cq rfl rfl rfl (opMove (mv rfl)) ?_
  refine cg rfl rfl rfl rfl rfl (fun g3 => opFieldP (fo56_1 H) (mv rfl)) ?_
  refine cg rfl rfl rfl rfl rfl (fun g4 => opLoad1 (tl54 H) ((Pt.box 0 (Ev.cnd (mv rfl) g4) rfl rfl).take 1 (cs' := [(ro eEdge 5 v1.fEdges)]) rfl)) ?_
  refine cg rfl rfl rfl rfl rfl (fun g5 => opLenR (il54 H) (Ev.cnd (mv rfl) g5)) ?_
  refine cg rfl rfl rfl rfl rfl (fun g6 => opGtr (Ev.cnd (mv rfl) g6) (Ev.const _)) ?_
  refine cq rfl rfl rfl (opOr (mv rfl) (Ev.const _) (fun g7 => (Ev.cnd (mv rfl) g7))) ?_
  refine rn (al [1, 3, 18] [0] rfl rfl rfl (sq ?_))
  refine CodeT.cond (decide (512 < (v1.fPlaces.length : Int)) || decide (2048 < (v1.fEdges.length : Int))) (evBool (mv rfl)) (fun c8 => ?_) (fun c8 => ?_)
  · rw [if_pos c8] at h
    refine cs (cr [0] rfl ?_)
    refine cq rfl rfl rfl (opAssign (Ev.const _)) ?_
    refine rn (al [2] [] rfl rfl rfl (sq ?_))
    refine CodeT.ret ?_
    refine AtX.then_ret ?_
    refine AtX.ret' (iv .i64 2) (ResOK.one Try.results25 rfl) [] [] trivial rfl ?_
    obtain rfl := Option.some.inj h
    exact ⟨rfl, rfl⟩
  · rw [if_neg (bne_true c8)] at h
    refine CodeT.skip ?_
    refine al [1, 3] [0] rfl rfl rfl ?_
    refine sq (cs (cs (cr [0, 1, 2, 3] rfl ?_)))
    refine cq rfl rfl rfl (opFieldP (fo56_0 H) (mv rfl)) ?_
    refine cq rfl rfl rfl (opLoad1 (tl53 H) ((Pt.box 0 (mv rfl) rfl rfl).take 1 (cs' := [(ro ePlace 3 v1.fPlaces)]) rfl)) ?_
    refine cq rfl rfl rfl (opLenR (il53 H) (mv rfl)) ?_
    refine cq rfl rfl rfl (opMove (Ev.const _)) ?_
    refine rn (al [1, 3, 20, 21, 22] [0] rfl rfl rfl (sq ?_))
    refine CodeT.join (fun z : Unit => (network_Check_j9 φ v1)) r (fun z => ⟨Slots.of [(1, (eqv (.pointer (some ⟨b2, 0, none⟩)))), (3, (iv .i64 (v1.fPlaces.length : Int)))], [(box b2 56 (eNetwork v1))]⟩) (fun z h => ?_) (fun hJ9 => ?_)
    · replace h : (network_Check_j9 φ v1) = some r := h
      unfold network_Check_j9 at h
      refine al [1, 3] [0] rfl rfl rfl ?_
      refine sq (cs (cs (cr [0, 1, 2, 3] rfl ?_)))
      refine cq rfl rfl rfl (opFieldP (fo56_1 H) (mv rfl)) ?_
      refine cq rfl rfl rfl (opLoad1 (tl54 H) ((Pt.box 0 (mv rfl) rfl rfl).take 1 (cs' := [(ro eEdge 5 v1.fEdges)]) rfl)) ?_
      refine cq rfl rfl rfl (opLenR (il54 H) (mv rfl)) ?_
      refine cq rfl rfl rfl (opMove (Ev.const _)) ?_
      refine rn (al [3, 31, 32, 33] [] rfl rfl rfl (sq ?_))
      refine CodeT.join (fun z : Unit => (network_Check_j10 φ)) r (fun z => ⟨Slots.of [], []⟩) (fun z h => ?_) (fun hJ10 => ?_)
      · replace h : (network_Check_j10 φ) = some r := h
        unfold network_Check_j10 at h
        refine al [] [] rfl rfl rfl ?_
        refine sq (cs (cr [0] rfl ?_))
        refine cq rfl rfl rfl (opAssign (Ev.const _)) ?_
        refine rn (al [2] [] rfl rfl rfl (sq ?_))
        refine CodeT.ret ?_
        refine AtX.ret' (iv .i64 0) (ResOK.one Try.results25 rfl) [] [] trivial rfl ?_
        obtain rfl := Option.some.inj h
        exact ⟨rfl, rfl⟩
      · refine CodeT.block ?_
        refine CodeT.to (CodeT.loop (fun n (z : Int) => network_Check_L12 φ v1 (network_Check_j10 φ) n z) r (fun z => ⟨Slots.of [(3, (iv .i64 (v1.fPlaces.length : Int))), (31, (ro eEdge 5 v1.fEdges)), (32, (iv .i64 (v1.fEdges.length : Int))), (33, (iv .i64 z))], []⟩) (fun z => rfl) (fun n12 v11 ih12 h => ?_) φ 0 h) [] (sl rfl) trivial rfl
        replace h : network_Check_L12 φ v1 (network_Check_j10 φ) (n12 + 1) v11 = some r := h
        rw [network_Check_L12] at h
        refine cs (cr [0] rfl ?_)
        refine cq rfl rfl rfl (opLss (mv rfl) (mv rfl)) ?_
        refine rn (al [3, 31, 32, 33, 34] [] rfl rfl rfl (sq (cs ?_)))
        refine CodeT.cond (decide (v11 < (v1.fEdges.length : Int))) (evBool (mv rfl)) (fun c13 => ?_) (fun c13 => ?_)
        · rw [if_pos c13] at h
          refine CodeT.skip ?_
          refine al [3, 31, 32, 33] [] rfl rfl rfl ?_
          refine sq (cs ?_)
          refine CodeT.block ?_
          refine cs (cr [0, 1, 2, 3] rfl ?_)
          refine ckE h fun h14 h => ?_
          refine cq rfl rfl rfl (opIndexR (e := eEdge) (y := (gt v1.fEdges v11)) (ix54 H) (mv rfl) (mv rfl) (h14).1 (gt_some h14)) ?_
          refine RunOps.cons_q (agg (eEdge (gt v1.fEdges v11))) rfl rfl rfl (opLoadN (tl98 H) (Pt.rop (mv rfl))) ?_
          refine RunOps.cons rfl rfl rfl (opAlloc [.int .i64 0, .int .i64 0, .int .i64 0, .int .i64 0, .int .i64 0] (ze98 H) rfl fun b15 => ?_)
          refine RunOps.cons rfl rfl rfl (opStore 0 (cells := [(iv .i64 0), (iv .i64 0), (iv .i64 0), (iv .i64 0), (iv .i64 0)]) (cs := (eEdge (gt v1.fEdges v11))) (out := (eEdge (gt v1.fEdges v11))) (tl98 H) (mv rfl) (Ce.agg (mv rfl)) rfl rfl (Nat.le_of_ble_eq_true rfl) rfl ?_)
          refine rn (al [3, 7, 31, 32, 33] [0] rfl rfl rfl (sq (cs (cr [0, 1, 2, 3, 4, 5, 6, 7, 8, 9, 10, 11, 12, 13, 14, 15, 16, 17, 18, 19, 20, 21, 22, 23, 24, 25, 26, 27, 28, 29, 30, 31, 32, 33, 34, 35, 36, 37, 38, 39, 40, 41, 42, 43, 44, 45] rfl ?_))))
          refine cq rfl rfl rfl (opFieldP (fo98_0 H) (mv rfl)) ?_
          refine cq rfl rfl rfl (opLoad1 (tl3 H) ((Pt.box 0 (mv rfl) rfl rfl).take 1 (cs' := [(iv .i64 ((gt v1.fEdges v11).fA))]) rfl)) ?_
          refine cq rfl rfl rfl (opFieldP (fo98_1 H) (mv rfl)) ?_
          refine cq rfl rfl rfl (opLoad1 (tl3 H) ((Pt.box 0 (mv rfl) rfl rfl).take 1 (cs' := [(iv .i64 ((gt v1.fEdges v11).fB))]) rfl)) ?_
          refine cq rfl rfl rfl (opFieldP (fo98_2 H) (mv rfl)) ?_
          refine cq rfl rfl rfl (opLoad1 (tl3 H) ((Pt.box 0 (mv rfl) rfl rfl).take 1 (cs' := [(iv .i64 ((gt v1.fEdges v11).fRailway))]) rfl)) ?_
          refine cq rfl rfl rfl (opFieldP (fo98_4 H) (mv rfl)) ?_
          refine cq rfl rfl rfl (opLoad1 (tl3 H) ((Pt.box 0 (mv rfl) rfl rfl).take 1 (cs' := [(iv .i64 ((gt v1.fEdges v11).fKm))]) rfl)) ?_
          refine cq rfl rfl rfl (opMin (n := [(gt v1.fEdges v11).fB, (gt v1.fEdges v11).fRailway, (gt v1.fEdges v11).fKm]) (mv rfl) ⟨(mv rfl), (mv rfl), (mv rfl), trivial⟩) ?_
          refine cq rfl rfl rfl (opLss (mv rfl) (Ev.const _)) ?_
          refine cq rfl rfl rfl (opMove (mv rfl)) ?_
          refine cg rfl rfl rfl rfl rfl (fun g16 => opFieldP (fo98_0 H) (mv rfl)) ?_
          refine cg rfl rfl rfl rfl rfl (fun g17 => opLoad1 (tl3 H) ((Pt.box 0 (Ev.cnd (mv rfl) g17) rfl rfl).take 1 (cs' := [(iv .i64 ((gt v1.fEdges v11).fA))]) rfl)) ?_
          refine cg rfl rfl rfl rfl rfl (fun g18 => opFieldP (fo98_1 H) (mv rfl)) ?_
          refine cg rfl rfl rfl rfl rfl (fun g19 => opLoad1 (tl3 H) ((Pt.box 0 (Ev.cnd (mv rfl) g19) rfl rfl).take 1 (cs' := [(iv .i64 ((gt v1.fEdges v11).fB))]) rfl)) ?_
          refine cg rfl rfl rfl rfl rfl (fun g20 => opMax (n := [(gt v1.fEdges v11).fB]) (Ev.cnd (mv rfl) g20) ⟨(Ev.cnd (mv rfl) g20), trivial⟩) ?_
          refine cg rfl rfl rfl rfl rfl (fun g21 => opMove (mv rfl)) ?_
          refine cg rfl rfl rfl rfl rfl (fun g22 => opGeq (Ev.cnd (mv rfl) g22) (Ev.cnd (mv rfl) g22)) ?_
          refine cq rfl rfl rfl (opOr (mv rfl) (Ev.const _) (fun g23 => (Ev.cnd (mv rfl) g23))) ?_
          refine cq rfl rfl rfl (opMove (mv rfl)) ?_
          refine cg rfl rfl rfl rfl rfl (fun g24 => opFieldP (fo98_0 H) (mv rfl)) ?_
          refine cg rfl rfl rfl rfl rfl (fun g25 => opLoad1 (tl3 H) ((Pt.box 0 (Ev.cnd (mv rfl) g25) rfl rfl).take 1 (cs' := [(iv .i64 ((gt v1.fEdges v11).fA))]) rfl)) ?_
          refine cg rfl rfl rfl rfl rfl (fun g26 => opFieldP (fo98_1 H) (mv rfl)) ?_
          refine cg rfl rfl rfl rfl rfl (fun g27 => opLoad1 (tl3 H) ((Pt.box 0 (Ev.cnd (mv rfl) g27) rfl rfl).take 1 (cs' := [(iv .i64 ((gt v1.fEdges v11).fB))]) rfl)) ?_
          refine cg rfl rfl rfl rfl rfl (fun g28 => opEql (Ev.cnd (mv rfl) g28) (Ev.cnd (mv rfl) g28)) ?_
          refine cq rfl rfl rfl (opOr (mv rfl) (Ev.const _) (fun g29 => (Ev.cnd (mv rfl) g29))) ?_
          refine cq rfl rfl rfl (opMove (mv rfl)) ?_
          refine cg rfl rfl rfl rfl rfl (fun g30 => opFieldP (fo98_2 H) (mv rfl)) ?_
          refine cg rfl rfl rfl rfl rfl (fun g31 => opLoad1 (tl3 H) ((Pt.box 0 (Ev.cnd (mv rfl) g31) rfl rfl).take 1 (cs' := [(iv .i64 ((gt v1.fEdges v11).fRailway))]) rfl)) ?_
          refine cg rfl rfl rfl rfl rfl (fun g32 => opGeq (Ev.cnd (mv rfl) g32) (Ev.const _)) ?_
          refine cq rfl rfl rfl (opOr (mv rfl) (Ev.const _) (fun g33 => (Ev.cnd (mv rfl) g33))) ?_
          refine cq rfl rfl rfl (opMove (mv rfl)) ?_
          refine cg rfl rfl rfl rfl rfl (fun g34 => opFieldP (fo98_3 H) (mv rfl)) ?_
          refine cg rfl rfl rfl rfl rfl (fun g35 => opLoad1 (tl3 H) ((Pt.box 0 (Ev.cnd (mv rfl) g35) rfl rfl).take 1 (cs' := [(iv .i64 ((gt v1.fEdges v11).fMinutes))]) rfl)) ?_
          refine cg rfl rfl rfl rfl rfl (fun g36 => opLss (Ev.cnd (mv rfl) g36) (Ev.const _)) ?_
          refine cq rfl rfl rfl (opOr (mv rfl) (Ev.const _) (fun g37 => (Ev.cnd (mv rfl) g37))) ?_
          refine cq rfl rfl rfl (opMove (mv rfl)) ?_
          refine cg rfl rfl rfl rfl rfl (fun g38 => opFieldP (fo98_3 H) (mv rfl)) ?_
          refine cg rfl rfl rfl rfl rfl (fun g39 => opLoad1 (tl3 H) ((Pt.box 0 (Ev.cnd (mv rfl) g39) rfl rfl).take 1 (cs' := [(iv .i64 ((gt v1.fEdges v11).fMinutes))]) rfl)) ?_
          refine cg rfl rfl rfl rfl rfl (fun g40 => opGtr (Ev.cnd (mv rfl) g40) (Ev.const _)) ?_
          refine cq rfl rfl rfl (opOr (mv rfl) (Ev.const _) (fun g41 => (Ev.cnd (mv rfl) g41))) ?_
          refine cq rfl rfl rfl (opMove (mv rfl)) ?_
          refine cg rfl rfl rfl rfl rfl (fun g42 => opFieldP (fo98_4 H) (mv rfl)) ?_
          refine cg rfl rfl rfl rfl rfl (fun g43 => opLoad1 (tl3 H) ((Pt.box 0 (Ev.cnd (mv rfl) g43) rfl rfl).take 1 (cs' := [(iv .i64 ((gt v1.fEdges v11).fKm))]) rfl)) ?_
          refine cg rfl rfl rfl rfl rfl (fun g44 => opGtr (Ev.cnd (mv rfl) g44) (Ev.const _)) ?_
          refine cq rfl rfl rfl (opOr (mv rfl) (Ev.const _) (fun g45 => (Ev.cnd (mv rfl) g45))) ?_
          refine rn (al [3, 31, 32, 33, 82] [] rfl rfl rfl (sq ?_))
          refine CodeT.cond ((((((decide ((min2 (min2 (min2 ((gt v1.fEdges v11).fA) ((gt v1.fEdges v11).fB)) ((gt v1.fEdges v11).fRailway)) ((gt v1.fEdges v11).fKm)) < 0) || decide ((v1.fPlaces.length : Int) ≤ (max2 ((gt v1.fEdges v11).fA) ((gt v1.fEdges v11).fB)))) || ((gt v1.fEdges v11).fA == (gt v1.fEdges v11).fB)) || decide (16 ≤ (gt v1.fEdges v11).fRailway)) || decide ((gt v1.fEdges v11).fMinutes < 1)) || decide (100000 < (gt v1.fEdges v11).fMinutes)) || decide (10000 < (gt v1.fEdges v11).fKm)) (evBool (mv rfl)) (fun c46 => ?_) (fun c46 => ?_)
          · rw [if_pos c46] at h
            refine cs (cr [0] rfl ?_)
            refine cq rfl rfl rfl (opAssign (Ev.const _)) ?_
            refine rn (al [2] [] rfl rfl rfl (sq ?_))
            refine CodeT.ret ?_
            refine AtX.in_ret ?_
            refine AtX.then_ret ?_
            refine AtX.then_ret ?_
            refine AtX.in_ret ?_
            refine AtX.then_ret ?_
            refine AtX.ret' (iv .i64 1) (ResOK.one Try.results25 rfl) [] [] trivial rfl ?_
            obtain rfl := Option.some.inj h
            exact ⟨rfl, rfl⟩
          · rw [if_neg (bne_true c46)] at h
            refine CodeT.skip ?_
            refine AtX.in_normal ?_
            refine al [3, 31, 32, 33] [] rfl rfl rfl ?_
            refine sq (cr [0, 1] rfl ?_)
            refine cq rfl rfl rfl (opAdd (mv rfl) (Ev.const _)) ?_
            refine cq rfl rfl rfl (opMove (mv rfl)) ?_
            refine rn ?_
            exact AtX.to (ih12 (W (v11 + 1)) h) [] (sl rfl) trivial rfl
        · rw [if_neg (bne_true c13)] at h
          refine CodeT.exit ?_
          refine AtX.then_exit ?_
          refine AtX.then_exit ?_
          refine AtX.in_hit ?_
          exact AtX.to (hJ10 () h) [] trivial trivial rfl
    · refine CodeT.block ?_
      refine CodeT.to (CodeT.loop (fun n (z : Int) => network_Check_L48 φ v1 (network_Check_j9 φ v1) n z) r (fun z => ⟨Slots.of [(1, (eqv (.pointer (some ⟨b2, 0, none⟩)))), (3, (iv .i64 (v1.fPlaces.length : Int))), (20, (ro ePlace 3 v1.fPlaces)), (21, (iv .i64 (v1.fPlaces.length : Int))), (22, (iv .i64 z))], [(box b2 56 (eNetwork v1))]⟩) (fun z => rfl) (fun n48 v47 ih48 h => ?_) φ 0 h) [0] (sl rfl) (ol rfl) rfl
      replace h : network_Check_L48 φ v1 (network_Check_j9 φ v1) (n48 + 1) v47 = some r := h
      rw [network_Check_L48] at h
      refine cs (cr [0] rfl ?_)
      refine cq rfl rfl rfl (opLss (mv rfl) (mv rfl)) ?_
      refine rn (al [1, 3, 20, 21, 22, 23] [0] rfl rfl rfl (sq (cs ?_)))
      refine CodeT.cond (decide (v47 < (v1.fPlaces.length : Int))) (evBool (mv rfl)) (fun c49 => ?_) (fun c49 => ?_)
      · rw [if_pos c49] at h
        refine CodeT.skip ?_
        refine al [1, 3, 20, 21, 22] [0] rfl rfl rfl ?_
        refine sq (cs ?_)
        refine CodeT.block ?_
        refine cs (cr [0, 1, 2, 3] rfl ?_)
        refine ckE h fun h50 h => ?_
        refine cq rfl rfl rfl (opIndexR (e := ePlace) (y := (gt v1.fPlaces v47)) (ix53 H) (mv rfl) (mv rfl) (h50).1 (gt_some h50)) ?_
        refine RunOps.cons_q (agg (ePlace (gt v1.fPlaces v47))) rfl rfl rfl (opLoadN (tl77 H) (Pt.rop (mv rfl))) ?_
        refine RunOps.cons rfl rfl rfl (opAlloc [.int .i64 0, .int .i64 0, .int .i64 0] (ze77 H) rfl fun b51 => ?_)
        refine RunOps.cons rfl rfl rfl (opStore 1 (cells := [(iv .i64 0), (iv .i64 0), (iv .i64 0)]) (cs := (ePlace (gt v1.fPlaces v47))) (out := (ePlace (gt v1.fPlaces v47))) (tl77 H) (mv rfl) (Ce.agg (mv rfl)) rfl rfl (Nat.le_of_ble_eq_true rfl) rfl ?_)
        refine rn (al [1, 3, 5, 20, 21, 22] [0, 1] rfl rfl rfl (sq (cs (cr [0, 1, 2] rfl ?_))))
        refine RunOps.cons_q (agg (ePlace (gt v1.fPlaces v47))) rfl rfl rfl (opLoadN (tl77 H) ((Pt.box 1 (mv rfl) rfl rfl).take 3 (cs' := (ePlace (gt v1.fPlaces v47))) rfl)) ?_
        refine bindE h fun y52 ey52 h => ?_
        refine cq rfl rfl rfl (opCallQ (fnok45 H) (args := [(agg (ePlace (gt v1.fPlaces v47)))]) ⟨EvF.of (mv rfl) FEnt.refl, trivial⟩ (network_place_ok H φ (gt v1.fPlaces v47) _ ey52) flat_eqv) ?_
        refine cq rfl rfl rfl (opNot (mv rfl)) ?_
        refine rn (al [1, 3, 20, 21, 22, 28] [0] rfl rfl rfl (sq ?_))
        refine CodeT.cond (!y52) (evBool (mv rfl)) (fun c53 => ?_) (fun c53 => ?_)
        · rw [if_pos c53] at h
          refine cs (cr [0] rfl ?_)
          refine cq rfl rfl rfl (opAssign (Ev.const _)) ?_
          refine rn (al [2] [] rfl rfl rfl (sq ?_))
          refine CodeT.ret ?_
          refine AtX.in_ret ?_
          refine AtX.then_ret ?_
          refine AtX.then_ret ?_
          refine AtX.in_ret ?_
          refine AtX.then_ret ?_
          refine AtX.ret' (iv .i64 1) (ResOK.one Try.results25 rfl) [] [] trivial rfl ?_
          obtain rfl := Option.some.inj h
          exact ⟨rfl, rfl⟩
        · rw [if_neg (bne_true c53)] at h
          refine CodeT.skip ?_
          refine AtX.in_normal ?_
          refine al [1, 3, 20, 21, 22] [0] rfl rfl rfl ?_
          refine sq (cr [0, 1] rfl ?_)
          refine cq rfl rfl rfl (opAdd (mv rfl) (Ev.const _)) ?_
          refine cq rfl rfl rfl (opMove (mv rfl)) ?_
          refine rn ?_
          exact AtX.to (ih48 (W (v47 + 1)) h) [0] (sl rfl) (ol rfl) rfl
      · rw [if_neg (bne_true c49)] at h
        refine CodeT.exit ?_
        refine AtX.then_exit ?_
        refine AtX.then_exit ?_
        refine AtX.in_hit ?_
        exact AtX.to (hJ9 () h) [0] (sl rfl) (ol rfl) rfl
theorem ref08_Check_ok {P : Program} (H : P = Try.prog) (φ : Nat) (v1 : Network) (r : (Int)) (h : ref08_Check φ v1 = some r) : PureT P 40 [(agg (eNetwork v1))] (fun x news => x = (iv .i64 r) ∧ news = []) := by
  unfold ref08_Check at h
  refine PureT.of_code' 46 (fn40 H) rfl rfl (Nat.le_of_ble_eq_true rfl) fun w0 base r0 wI => ?_
  refine cl [0] [] rfl rfl rfl ?_
  refine cs (cr [0, 1] rfl ?_)
  refine RunOps.cons rfl rfl rfl (opBox (cs := (eNetwork v1)) (Ce.agg (mv rfl)) fun b2 => ?_)
  refine cq rfl rfl rfl (opAssign (Ev.const _)) ?_
  refine rn (al [1] [0] rfl rfl rfl (sq (cs (cs (cr [0, 1, 2, 3, 4, 5, 6, 7, 8, 9] rfl ?_)))))
  refine cq rfl rfl rfl (opFieldP (fo56_0 H) (mv rfl)) ?_
  refine cq rfl rfl rfl (opLoad1 (tl53 H) ((Pt.box 0 (mv rfl) rfl rfl).take 1 (cs' := [(ro ePlace 3 v1.fPlaces)]) rfl)) ?_
  refine cq rfl rfl rfl (opLenR (il53 H) (mv rfl)) ?_
  refine cq rfl rfl rfl (opGtr (mv rfl) (Ev.const _)) ?_
  refine cq rfl rfl rfl (opMove (mv rfl)) ?_
  refine cg rfl rfl rfl rfl rfl (fun g3 => opFieldP (fo56_1 H) (mv rfl)) ?_
  refine cg rfl rfl rfl rfl rfl (fun g4 => opLoad1 (tl54 H) ((Pt.box 0 (Ev.cnd (mv rfl) g4) rfl rfl).take 1 (cs' := [(ro eEdge 5 v1.fEdges)]) rfl)) ?_
  refine cg rfl rfl rfl rfl rfl (fun g5 => opLenR (il54 H) (Ev.cnd (mv rfl) g5)) ?_
  refine cg rfl rfl rfl rfl rfl (fun g6 => opGtr (Ev.cnd (mv rfl) g6) (Ev.const _)) ?_
  refine cq rfl rfl rfl (opOr (mv rfl) (Ev.const _) (fun g7 => (Ev.cnd (mv rfl) g7))) ?_
  refine rn (al [1, 14] [0] rfl rfl rfl (sq ?_))
  refine CodeT.cond (decide (512 < (v1.fPlaces.length : Int)) || decide (2048 < (v1.fEdges.length : Int))) (evBool (mv rfl)) (fun c8 => ?_) (fun c8 => ?_)
  · rw [if_pos c8] at h
    refine cs (cr [0] rfl ?_)
    refine cq rfl rfl rfl (opAssign (Ev.const _)) ?_
    refine rn (al [2] [] rfl rfl rfl (sq ?_))
    refine CodeT.ret ?_
    refine AtX.then_ret ?_
    refine AtX.ret' (iv .i64 2) (ResOK.one Try.results40 rfl) [] [] trivial rfl ?_
    obtain rfl := Option.some.inj h
    exact ⟨rfl, rfl⟩
  · rw [if_neg (bne_true c8)] at h
    refine CodeT.skip ?_
    refine al [1] [0] rfl rfl rfl ?_
    refine sq (cs (cs (cr [0] rfl ?_)))
    refine cq rfl rfl rfl (opAssign (Ev.const _)) ?_
    refine rn (al [1, 3] [0] rfl rfl rfl (sq ?_))
    refine CodeT.join (fun z : Unit => (ref08_Check_j9 φ v1)) r (fun z => ⟨Slots.of [(1, (eqv (.pointer (some ⟨b2, 0, none⟩))))], [(box b2 56 (eNetwork v1))]⟩) (fun z h => ?_) (fun hJ9 => ?_)
    · replace h : (ref08_Check_j9 φ v1) = some r := h
      unfold ref08_Check_j9 at h
      refine al [1] [0] rfl rfl rfl ?_
      refine sq (cs (cs (cr [0] rfl ?_)))
      refine cq rfl rfl rfl (opAssign (Ev.const _)) ?_
      refine rn (al [1, 4] [0] rfl rfl rfl (sq ?_))
      refine CodeT.join (fun z : Unit => (ref08_Check_j10 φ)) r (fun z => ⟨Slots.of [], []⟩) (fun z h => ?_) (fun hJ10 => ?_)
      · replace h : (ref08_Check_j10 φ) = some r := h
        unfold ref08_Check_j10 at h
        refine al [] [] rfl rfl rfl ?_
        refine sq (cs (cr [0] rfl ?_))
        refine cq rfl rfl rfl (opAssign (Ev.const _)) ?_
        refine rn (al [2] [] rfl rfl rfl (sq ?_))
        refine CodeT.ret ?_
        refine AtX.ret' (iv .i64 0) (ResOK.one Try.results40 rfl) [] [] trivial rfl ?_
        obtain rfl := Option.some.inj h
        exact ⟨rfl, rfl⟩
      · refine CodeT.block ?_
        refine CodeT.to (CodeT.loop (fun n (z : Int) => ref08_Check_L12 φ v1 (ref08_Check_j10 φ) n z) r (fun z => ⟨Slots.of [(1, (eqv (.pointer (some ⟨b2, 0, none⟩)))), (4, (iv .i64 z))], [(box b2 56 (eNetwork v1))]⟩) (fun z => rfl) (fun n12 v11 ih12 h => ?_) φ 0 h) [0] (sl rfl) (ol rfl) rfl
        replace h : ref08_Check_L12 φ v1 (ref08_Check_j10 φ) (n12 + 1) v11 = some r := h
        rw [ref08_Check_L12] at h
        refine cs (cs (cr [0, 1, 2, 3, 4] rfl ?_))
        refine cq rfl rfl rfl (opMove (mv rfl)) ?_
        refine cq rfl rfl rfl (opFieldP (fo56_1 H) (mv rfl)) ?_
        refine cq rfl rfl rfl (opLoad1 (tl54 H) ((Pt.box 0 (mv rfl) rfl rfl).take 1 (cs' := [(ro eEdge 5 v1.fEdges)]) rfl)) ?_
        refine cq rfl rfl rfl (opLenR (il54 H) (mv rfl)) ?_
        refine cq rfl rfl rfl (opLss (mv rfl) (mv rfl)) ?_
        refine rn (al [1, 4, 33] [0] rfl rfl rfl (sq ?_))
        refine CodeT.cond (decide (v11 < (v1.fEdges.length : Int))) (evBool (mv rfl)) (fun c13 => ?_) (fun c13 => ?_)
        · rw [if_pos c13] at h
          refine CodeT.skip ?_
          refine al [1, 4] [0] rfl rfl rfl ?_
          refine sq (cs ?_)
          refine CodeT.block ?_
          refine cs ?_
          refine ckE h fun h14 h => ?_
          refine bindE h fun y15 ey15 h => ?_
          refine CodeT.draw (QR := [(0, (eqv (.pointer (some ⟨b2, 1, none⟩)))), (1, (ro eEdge 5 v1.fEdges)), (2, (iv .i64 v11)), (3, (rop (eEdge (gt v1.fEdges v11)))), (4, (agg (eEdge (gt v1.fEdges v11)))), (5, (eqv (.pointer (some ⟨b2, 0, none⟩)))), (6, (ro ePlace 3 v1.fPlaces)), (7, (iv .i64 (v1.fPlaces.length : Int))), (8, (bv y15)), (9, (bv (!y15)))]) (tab := [(some 36, []), (some 37, [0]), (some 38, []), (some 39, [1, 2]), (some 40, [3]), (some 41, []), (some 42, [5]), (some 43, [6]), (some 44, [4, 7]), (some 45, [8])]) (mixed H) ?_
          refine Reg.intro [] [] (by kernel_rfl) rfl ⟨rfl, rfl, rfl, rfl, rfl, rfl, rfl, rfl, rfl, rfl, trivial⟩ ⟨(fun _ => ⟨_, rfl, (opFieldP (fo56_1 H) (mv rfl))⟩), (fun _ => ⟨_, rfl, (opLoad1 (tl54 H) ((Pt.box 0 (mv rfl) rfl rfl).take 1 (cs' := [(ro eEdge 5 v1.fEdges)]) rfl))⟩), (fun _ => ⟨_, rfl, (opMove (mv rfl))⟩), (fun _ => ⟨_, rfl, (opIndexR (e := eEdge) (y := (gt v1.fEdges v11)) (ix54 H) (mv rfl) (mv rfl) (h14).1 (gt_some h14))⟩), (fun _ => ⟨_, rfl, (opLoadN (tl98 H) (Pt.rop (mv rfl)))⟩), (fun _ => ⟨_, rfl, (opFieldP (fo56_0 H) (mv rfl))⟩), (fun _ => ⟨_, rfl, (opLoad1 (tl53 H) ((Pt.box 0 (mv rfl) rfl rfl).take 1 (cs' := [(ro ePlace 3 v1.fPlaces)]) rfl))⟩), (fun _ => ⟨_, rfl, (opLenR (il53 H) (mv rfl))⟩), (fun _ => ⟨_, rfl, (opCallQ (fnok53 H) (args := [(agg (eEdge (gt v1.fEdges v11))), (iv .i64 (v1.fPlaces.length : Int))]) ⟨EvF.of (mv rfl) FEnt.refl, EvF.of (mv rfl) FEnt.refl, trivial⟩ (ref08_line_ok H φ (gt v1.fEdges v11) (v1.fPlaces.length : Int) _ ey15) flat_eqv)⟩), (fun _ => ⟨_, rfl, (opNot (mv rfl))⟩), trivial⟩ trivial (fun _ => ?_)
          refine al [1, 4, 45] [0] rfl rfl rfl ?_
          refine sq ?_
          refine CodeT.cond (!y15) (evBool (mv rfl)) (fun c16 => ?_) (fun c16 => ?_)
          · rw [if_pos c16] at h
            refine cs (cr [0] rfl ?_)
            refine cq rfl rfl rfl (opAssign (Ev.const _)) ?_
            refine rn (al [2] [] rfl rfl rfl (sq ?_))
            refine CodeT.ret ?_
            refine AtX.in_ret ?_
            refine AtX.then_ret ?_
            refine AtX.then_ret ?_
            refine AtX.in_ret ?_
            refine AtX.then_ret ?_
            refine AtX.ret' (iv .i64 1) (ResOK.one Try.results40 rfl) [] [] trivial rfl ?_
            obtain rfl := Option.some.inj h
            exact ⟨rfl, rfl⟩
          · rw [if_neg (bne_true c16)] at h
            refine CodeT.skip ?_
            refine AtX.in_normal ?_
            refine al [1, 4] [0] rfl rfl rfl ?_
            refine sq (cr [0, 1, 2] rfl ?_)
            refine cq rfl rfl rfl (opMove (mv rfl)) ?_
            refine cq rfl rfl rfl (opAdd (mv rfl) (Ev.const _)) ?_
            refine cq rfl rfl rfl (opAssign (mv rfl)) ?_
            refine rn ?_
            exact AtX.to (ih12 (W (v11 + 1)) h) [0] (sl rfl) (ol rfl) rfl
        · rw [if_neg (bne_true c13)] at h
          refine CodeT.exit ?_
          refine AtX.then_exit ?_
          refine AtX.then_exit ?_
          refine AtX.in_hit ?_
          exact AtX.to (hJ10 () h) [] trivial trivial rfl
    · refine CodeT.block ?_
      refine CodeT.to (CodeT.loop (fun n (z : Int) => ref08_Check_L18 φ v1 (ref08_Check_j9 φ v1) n z) r (fun z => ⟨Slots.of [(1, (eqv (.pointer (some ⟨b2, 0, none⟩)))), (3, (iv .i64 z))], [(box b2 56 (eNetwork v1))]⟩) (fun z => rfl) (fun n18 v17 ih18 h => ?_) φ 0 h) [0] (sl rfl) (ol rfl) rfl
      replace h : ref08_Check_L18 φ v1 (ref08_Check_j9 φ v1) (n18 + 1) v17 = some r := h
      rw [ref08_Check_L18] at h
      refine cs (cs (cr [0, 1, 2, 3, 4] rfl ?_))
      refine cq rfl rfl rfl (opMove (mv rfl)) ?_
      refine cq rfl rfl rfl (opFieldP (fo56_0 H) (mv rfl)) ?_
      refine cq rfl rfl rfl (opLoad1 (tl53 H) ((Pt.box 0 (mv rfl) rfl rfl).take 1 (cs' := [(ro ePlace 3 v1.fPlaces)]) rfl)) ?_
      refine cq rfl rfl rfl (opLenR (il53 H) (mv rfl)) ?_
      refine cq rfl rfl rfl (opLss (mv rfl) (mv rfl)) ?_
      refine rn (al [1, 3, 19] [0] rfl rfl rfl (sq ?_))
      refine CodeT.cond (decide (v17 < (v1.fPlaces.length : Int))) (evBool (mv rfl)) (fun c19 => ?_) (fun c19 => ?_)
      · rw [if_pos c19] at h
        refine CodeT.skip ?_
        refine al [1, 3] [0] rfl rfl rfl ?_
        refine sq (cs ?_)
        refine CodeT.block ?_
        refine cs (cr [0, 1, 2, 3, 4, 5, 6] rfl ?_)
        refine cq rfl rfl rfl (opFieldP (fo56_0 H) (mv rfl)) ?_
        refine cq rfl rfl rfl (opLoad1 (tl53 H) ((Pt.box 0 (mv rfl) rfl rfl).take 1 (cs' := [(ro ePlace 3 v1.fPlaces)]) rfl)) ?_
        refine cq rfl rfl rfl (opMove (mv rfl)) ?_
        refine ckE h fun h20 h => ?_
        refine cq rfl rfl rfl (opIndexR (e := ePlace) (y := (gt v1.fPlaces v17)) (ix53 H) (mv rfl) (mv rfl) (h20).1 (gt_some h20)) ?_
        refine RunOps.cons_q (agg (ePlace (gt v1.fPlaces v17))) rfl rfl rfl (opLoadN (tl77 H) (Pt.rop (mv rfl))) ?_
        refine bindE h fun y21 ey21 h => ?_
        refine cq rfl rfl rfl (opCallQ (fnok52 H) (args := [(agg (ePlace (gt v1.fPlaces v17)))]) ⟨EvF.of (mv rfl) FEnt.refl, trivial⟩ (ref08_place_ok H φ (gt v1.fPlaces v17) _ ey21) flat_eqv) ?_
        refine cq rfl rfl rfl (opNot (mv rfl)) ?_
        refine rn (al [1, 3, 28] [0] rfl rfl rfl (sq ?_))
        refine CodeT.cond (!y21) (evBool (mv rfl)) (fun c22 => ?_) (fun c22 => ?_)
        · rw [if_pos c22] at h
          refine cs (cr [0] rfl ?_)
          refine cq rfl rfl rfl (opAssign (Ev.const _)) ?_
          refine rn (al [2] [] rfl rfl rfl (sq ?_))
          refine CodeT.ret ?_
          refine AtX.in_ret ?_
          refine AtX.then_ret ?_
          refine AtX.then_ret ?_
          refine AtX.in_ret ?_
          refine AtX.then_ret ?_
          refine AtX.ret' (iv .i64 1) (ResOK.one Try.results40 rfl) [] [] trivial rfl ?_
          obtain rfl := Option.some.inj h
          exact ⟨rfl, rfl⟩
        · rw [if_neg (bne_true c22)] at h
          refine CodeT.skip ?_
          refine AtX.in_normal ?_
          refine al [1, 3] [0] rfl rfl rfl ?_
          refine sq (cr [0, 1, 2] rfl ?_)
          refine cq rfl rfl rfl (opMove (mv rfl)) ?_
          refine cq rfl rfl rfl (opAdd (mv rfl) (Ev.const _)) ?_
          refine cq rfl rfl rfl (opAssign (mv rfl)) ?_
          refine rn ?_
          exact AtX.to (ih18 (W (v17 + 1)) h) [0] (sl rfl) (ol rfl) rfl
      · rw [if_neg (bne_true c19)] at h
        refine CodeT.exit ?_
        refine AtX.then_exit ?_
        refine AtX.then_exit ?_
        refine AtX.in_hit ?_
        exact AtX.to (hJ9 () h) [0] (sl rfl) (ol rfl) rfl
theorem calendar_Check_ok {P : Program} (H : P = Try.prog) (φ : Nat) (v1 : Calendar) (r : (Int)) (h : calendar_Check φ v1 = some r) : PureT P 27 [(agg (eCalendar v1))] (fun x news => x = (iv .i64 r) ∧ news = []) := by
  unfold calendar_Check at h
  refine PureT.of_code' 45 (fn27 H) rfl rfl (Nat.le_of_ble_eq_true rfl) fun w0 base r0 wI => ?_
  refine cl [0] [] rfl rfl rfl ?_
  refine cs (cr [0, 1] rfl ?_)
  refine RunOps.cons rfl rfl rfl (opBox (cs := (eCalendar v1)) (Ce.agg (mv rfl)) fun b2 => ?_)
  refine cq rfl rfl rfl (opAssign (Ev.const _)) ?_
  refine rn (al [1] [0] rfl rfl rfl (sq (cs (cs (cr [0, 1, 2] rfl ?_)))))
  refine cq rfl rfl rfl (opFieldP (fo66_0 H) (mv rfl)) ?_
  refine cq rfl rfl rfl (opLoadN' (tl64 H) (by simp [arr_len lSpan]) ((Pt.box 0 (mv rfl) rfl rfl).take 14 (cs' := ([] ++ arr 7 eSpan v1.fOpen ++ [])) rfl)) ?_
  refine cq rfl rfl rfl (opMove (Ev.const _)) ?_
  refine rn (al [1, 9, 10] [0] rfl rfl rfl (sq ?_))
  refine CodeT.join (fun z : Unit => (calendar_Check_j3 φ v1)) r (fun z => ⟨Slots.of [(1, (eqv (.pointer (some ⟨b2, 0, none⟩))))], [(box b2 66 (eCalendar v1))]⟩) (fun z h => ?_) (fun hJ3 => ?_)
  · replace h : (calendar_Check_j3 φ v1) = some r := h
    unfold calendar_Check_j3 at h
    refine al [1] [0] rfl rfl rfl ?_
    refine sq (cs (cr [0] rfl ?_))
    refine cq rfl rfl rfl (opAssign (Ev.const _)) ?_
    refine rn (al [1, 5] [0] rfl rfl rfl (sq (cs (cs (cr [0, 1, 2, 3] rfl ?_)))))
    refine cq rfl rfl rfl (opFieldP (fo66_1 H) (mv rfl)) ?_
    refine cq rfl rfl rfl (opLoad1 (tl41 H) ((Pt.box 0 (mv rfl) rfl rfl).take 1 (cs' := [(ro eI64 1 v1.fHolidays)]) rfl)) ?_
    refine cq rfl rfl rfl (opLenR (il41 H) (mv rfl)) ?_
    refine cq rfl rfl rfl (opMove (Ev.const _)) ?_
    refine rn (al [5, 30, 31, 32] [] rfl rfl rfl (sq ?_))
    refine CodeT.join (fun z : Unit => (calendar_Check_j4 φ)) r (fun z => ⟨Slots.of [], []⟩) (fun z h => ?_) (fun hJ4 => ?_)
    · replace h : (calendar_Check_j4 φ) = some r := h
      unfold calendar_Check_j4 at h
      refine al [] [] rfl rfl rfl ?_
      refine sq (cs (cr [0] rfl ?_))
      refine cq rfl rfl rfl (opAssign (Ev.const _)) ?_
      refine rn (al [2] [] rfl rfl rfl (sq ?_))
      refine CodeT.ret ?_
      refine AtX.ret' (iv .i64 0) (ResOK.one Try.results27 rfl) [] [] trivial rfl ?_
      obtain rfl := Option.some.inj h
      exact ⟨rfl, rfl⟩
    · refine CodeT.block ?_
      refine CodeT.to (CodeT.loop (fun n (z : Int × Int) => calendar_Check_L7 φ v1 (calendar_Check_j4 φ) n z.1 z.2) r (fun z => ⟨Slots.of [(5, (iv .i64 z.1)), (30, (ro eI64 1 v1.fHolidays)), (31, (iv .i64 (v1.fHolidays.length : Int))), (32, (iv .i64 z.2))], []⟩) (fun z => rfl) (fun n7 z ih7 h => ?_) φ ((-1), 0) h) [] (sl rfl) trivial rfl
      obtain ⟨v5, v6⟩ := z
      replace h : calendar_Check_L7 φ v1 (calendar_Check_j4 φ) (n7 + 1) v5 v6 = some r := h
      rw [calendar_Check_L7] at h
      refine cs (cr [0] rfl ?_)
      refine cq rfl rfl rfl (opLss (mv rfl) (mv rfl)) ?_
      refine rn (al [5, 30, 31, 32, 33] [] rfl rfl rfl (sq (cs ?_)))
      refine CodeT.cond (decide (v6 < (v1.fHolidays.length : Int))) (evBool (mv rfl)) (fun c8 => ?_) (fun c8 => ?_)
      · rw [if_pos c8] at h
        refine CodeT.skip ?_
        refine al [5, 30, 31, 32] [] rfl rfl rfl ?_
        refine sq (cs ?_)
        refine CodeT.block ?_
        refine cs (cr [0, 1, 2] rfl ?_)
        refine ckE h fun h9 h => ?_
        refine cq rfl rfl rfl (opIndexR (e := eI64) (y := (gt v1.fHolidays v6)) (ix41 H) (mv rfl) (mv rfl) (h9).1 (gt_some h9)) ?_
        refine cq rfl rfl rfl (opLoad1 (tl3 H) (Pt.rop (mv rfl))) ?_
        refine cq rfl rfl rfl (opAssign (mv rfl)) ?_
        refine rn (al [5, 7, 30, 31, 32] [] rfl rfl rfl (sq (cs (cs (cr [0, 1, 2, 3, 4, 5, 6] rfl ?_)))))
        refine cq rfl rfl rfl (opMove (mv rfl)) ?_
        refine cq rfl rfl rfl (opMove (mv rfl)) ?_
        refine cq rfl rfl rfl (opLeq (mv rfl) (mv rfl)) ?_
        refine cq rfl rfl rfl (opMove (mv rfl)) ?_
        refine cg rfl rfl rfl rfl rfl (fun g10 => opMove (mv rfl)) ?_
        refine cg rfl rfl rfl rfl rfl (fun g11 => opGtr (Ev.cnd (mv rfl) g11) (Ev.const _)) ?_
        refine cq rfl rfl rfl (opOr (mv rfl) (Ev.const _) (fun g12 => (Ev.cnd (mv rfl) g12))) ?_
        refine rn (al [7, 30, 31, 32, 42] [] rfl rfl rfl (sq ?_))
        refine CodeT.cond (decide ((gt v1.fHolidays v6) ≤ v5) || decide (745654 < (gt v1.fHolidays v6))) (evBool (mv rfl)) (fun c13 => ?_) (fun c13 => ?_)
        · rw [if_pos c13] at h
          refine cs (cr [0] rfl ?_)
          refine cq rfl rfl rfl (opAssign (Ev.const _)) ?_
          refine rn (al [2] [] rfl rfl rfl (sq ?_))
          refine CodeT.ret ?_
          refine AtX.then_ret ?_
          refine AtX.in_ret ?_
          refine AtX.then_ret ?_
          refine AtX.then_ret ?_
          refine AtX.in_ret ?_
          refine AtX.then_ret ?_
          refine AtX.ret' (iv .i64 1) (ResOK.one Try.results27 rfl) [] [] trivial rfl ?_
          obtain rfl := Option.some.inj h
          exact ⟨rfl, rfl⟩
        · rw [if_neg (bne_true c13)] at h
          refine CodeT.skip ?_
          refine al [7, 30, 31, 32] [] rfl rfl rfl ?_
          refine sq (cr [0, 1] rfl ?_)
          refine cq rfl rfl rfl (opMove (mv rfl)) ?_
          refine cq rfl rfl rfl (opAssign (mv rfl)) ?_
          refine rn ?_
          refine AtX.in_normal ?_
          refine al [5, 30, 31, 32] [] rfl rfl rfl ?_
          refine sq (cr [0, 1] rfl ?_)
          refine cq rfl rfl rfl (opAdd (mv rfl) (Ev.const _)) ?_
          refine cq rfl rfl rfl (opMove (mv rfl)) ?_
          refine rn ?_
          exact AtX.to (ih7 ((gt v1.fHolidays v6), (W (v6 + 1))) h) [] (sl rfl) trivial rfl
      · rw [if_neg (bne_true c8)] at h
        refine CodeT.exit ?_
        refine AtX.then_exit ?_
        refine AtX.then_exit ?_
        refine AtX.in_hit ?_
        exact AtX.to (hJ4 () h) [] trivial trivial rfl
  · refine CodeT.block ?_
    refine CodeT.to (CodeT.loop (fun n (z : Int) => calendar_Check_L15 φ v1 (calendar_Check_j3 φ v1) n z) r (fun z => ⟨Slots.of [(1, (eqv (.pointer (some ⟨b2, 0, none⟩)))), (9, (agg ([] ++ arr 7 eSpan v1.fOpen ++ []))), (10, (iv .i64 z))], [(box b2 66 (eCalendar v1))]⟩) (fun z => rfl) (fun n15 v14 ih15 h => ?_) φ 0 h) [0] (sl rfl) (ol rfl) rfl
    replace h : calendar_Check_L15 φ v1 (calendar_Check_j3 φ v1) (n15 + 1) v14 = some r := h
    rw [calendar_Check_L15] at h
    refine cs (cr [0] rfl ?_)
    refine cq rfl rfl rfl (opLss (mv rfl) (Ev.const _)) ?_
    refine rn (al [1, 9, 10, 11] [0] rfl rfl rfl (sq (cs ?_)))
    refine CodeT.cond (decide (v14 < 7)) (evBool (mv rfl)) (fun c16 => ?_) (fun c16 => ?_)
    · rw [if_pos c16] at h
      refine CodeT.skip ?_
      refine al [1, 9, 10] [0] rfl rfl rfl ?_
      refine sq (cs ?_)
      refine CodeT.block ?_
      refine cs (cr [0, 1, 2] rfl ?_)
      refine ckE h fun h17 h => ?_
      refine cq rfl rfl rfl (opIndexVN (ta64 H) (tl63 H) (mv rfl) (mv rfl) lSpan (h17).1 (h17).2) ?_
      refine RunOps.cons rfl rfl rfl (opAlloc [.int .i64 0, .int .i64 0] (ze63 H) rfl fun b18 => ?_)
      refine RunOps.cons rfl rfl rfl (opStore 1 (cells := [(iv .i64 0), (iv .i64 0)]) (cs := (eSpan (v1.fOpen (v14 : Int).toNat))) (out := (eSpan (v1.fOpen (v14 : Int).toNat))) (tl63 H) (mv rfl) (Ce.agg (mv rfl)) rfl rfl (Nat.le_of_ble_eq_true rfl) rfl ?_)
      refine rn (al [1, 4, 9, 10] [0, 1] rfl rfl rfl (sq (cs (cr [0, 1, 2, 3, 4, 5, 6, 7, 8, 9, 10, 11, 12, 13, 14] rfl ?_))))
      refine cq rfl rfl rfl (opFieldP (fo63_0 H) (mv rfl)) ?_
      refine cq rfl rfl rfl (opLoad1 (tl3 H) ((Pt.box 1 (mv rfl) rfl rfl).take 1 (cs' := [(iv .i64 ((v1.fOpen (v14 : Int).toNat).fFrom))]) rfl)) ?_
      refine cq rfl rfl rfl (opLss (mv rfl) (Ev.const _)) ?_
      refine cq rfl rfl rfl (opMove (mv rfl)) ?_
      refine cg rfl rfl rfl rfl rfl (fun g19 => opFieldP (fo63_1 H) (mv rfl)) ?_
      refine cg rfl rfl rfl rfl rfl (fun g20 => opLoad1 (tl3 H) ((Pt.box 1 (Ev.cnd (mv rfl) g20) rfl rfl).take 1 (cs' := [(iv .i64 ((v1.fOpen (v14 : Int).toNat).fTo))]) rfl)) ?_
      refine cg rfl rfl rfl rfl rfl (fun g21 => opFieldP (fo63_0 H) (mv rfl)) ?_
      refine cg rfl rfl rfl rfl rfl (fun g22 => opLoad1 (tl3 H) ((Pt.box 1 (Ev.cnd (mv rfl) g22) rfl rfl).take 1 (cs' := [(iv .i64 ((v1.fOpen (v14 : Int).toNat).fFrom))]) rfl)) ?_
      refine cg rfl rfl rfl rfl rfl (fun g23 => opLss (Ev.cnd (mv rfl) g23) (Ev.cnd (mv rfl) g23)) ?_
      refine cq rfl rfl rfl (opOr (mv rfl) (Ev.const _) (fun g24 => (Ev.cnd (mv rfl) g24))) ?_
      refine cq rfl rfl rfl (opMove (mv rfl)) ?_
      refine cg rfl rfl rfl rfl rfl (fun g25 => opFieldP (fo63_1 H) (mv rfl)) ?_
      refine cg rfl rfl rfl rfl rfl (fun g26 => opLoad1 (tl3 H) ((Pt.box 1 (Ev.cnd (mv rfl) g26) rfl rfl).take 1 (cs' := [(iv .i64 ((v1.fOpen (v14 : Int).toNat).fTo))]) rfl)) ?_
      refine cg rfl rfl rfl rfl rfl (fun g27 => opGtr (Ev.cnd (mv rfl) g27) (Ev.const _)) ?_
      refine cq rfl rfl rfl (opOr (mv rfl) (Ev.const _) (fun g28 => (Ev.cnd (mv rfl) g28))) ?_
      refine rn (al [1, 9, 10, 27] [0] rfl rfl rfl (sq ?_))
      refine CodeT.cond ((decide ((v1.fOpen (v14 : Int).toNat).fFrom < 0) || decide ((v1.fOpen (v14 : Int).toNat).fTo < (v1.fOpen (v14 : Int).toNat).fFrom)) || decide (1440 < (v1.fOpen (v14 : Int).toNat).fTo)) (evBool (mv rfl)) (fun c29 => ?_) (fun c29 => ?_)
      · rw [if_pos c29] at h
        refine cs (cr [0] rfl ?_)
        refine cq rfl rfl rfl (opAssign (Ev.const _)) ?_
        refine rn (al [2] [] rfl rfl rfl (sq ?_))
        refine CodeT.ret ?_
        refine AtX.in_ret ?_
        refine AtX.then_ret ?_
        refine AtX.then_ret ?_
        refine AtX.in_ret ?_
        refine AtX.then_ret ?_
        refine AtX.ret' (iv .i64 1) (ResOK.one Try.results27 rfl) [] [] trivial rfl ?_
        obtain rfl := Option.some.inj h
        exact ⟨rfl, rfl⟩
      · rw [if_neg (bne_true c29)] at h
        refine CodeT.skip ?_
        refine AtX.in_normal ?_
        refine al [1, 9, 10] [0] rfl rfl rfl ?_
        refine sq (cr [0, 1] rfl ?_)
        refine cq rfl rfl rfl (opAdd (mv rfl) (Ev.const _)) ?_
        refine cq rfl rfl rfl (opMove (mv rfl)) ?_
        refine rn ?_
        exact AtX.to (ih15 (W (v14 + 1)) h) [0] (sl rfl) (ol rfl) rfl
    · rw [if_neg (bne_true c16)] at h
      refine CodeT.exit ?_
      refine AtX.then_exit ?_
      refine AtX.then_exit ?_
      refine AtX.in_hit ?_
      exact AtX.to (hJ3 () h) [0] (sl rfl) (ol rfl) rfl
theorem ref06_Check_ok {P : Program} (H : P = Try.prog) (φ : Nat) (v1 : Calendar) (r : (Int)) (h : ref06_Check φ v1 = some r) : PureT P 43 [(agg (eCalendar v1))] (fun x news => x = (iv .i64 r) ∧ news = []) := by
  unfold ref06_Check at h
  refine PureT.of_code' 62 (fn43 H) rfl rfl (Nat.le_of_ble_eq_true rfl) fun w0 base r0 wI => ?_
  refine cl [0] [] rfl rfl rfl ?_
  refine cs (cr [0, 1] rfl ?_)
  refine RunOps.cons rfl rfl rfl (opBox (cs := (eCalendar v1)) (Ce.agg (mv rfl)) fun b2 => ?_)
  refine cq rfl rfl rfl (opAssign (Ev.const _)) ?_
  refine rn (al [1] [0] rfl rfl rfl (sq (cs (cs (cr [0] rfl ?_)))))
  refine cq rfl rfl rfl (opAssign (Ev.const _)) ?_
  refine rn (al [1, 3] [0] rfl rfl rfl (sq ?_))
  refine CodeT.join (fun z : Unit => (ref06_Check_j3 φ v1)) r (fun z => ⟨Slots.of [(1, (eqv (.pointer (some ⟨b2, 0, none⟩))))], [(box b2 66 (eCalendar v1))]⟩) (fun z h => ?_) (fun hJ3 => ?_)
  · replace h : (ref06_Check_j3 φ v1) = some r := h
    unfold ref06_Check_j3 at h
    refine al [1] [0] rfl rfl rfl ?_
    refine sq (cs (cs (cr [0] rfl ?_)))
    refine cq rfl rfl rfl (opAssign (Ev.const _)) ?_
    refine rn (al [1, 5] [0] rfl rfl rfl (sq ?_))
    refine CodeT.join (fun z : Unit => (ref06_Check_j4 φ)) r (fun z => ⟨Slots.of [], []⟩) (fun z h => ?_) (fun hJ4 => ?_)
    · replace h : (ref06_Check_j4 φ) = some r := h
      unfold ref06_Check_j4 at h
      refine al [] [] rfl rfl rfl ?_
      refine sq (cs (cr [0] rfl ?_))
      refine cq rfl rfl rfl (opAssign (Ev.const _)) ?_
      refine rn (al [2] [] rfl rfl rfl (sq ?_))
      refine CodeT.ret ?_
      refine AtX.ret' (iv .i64 0) (ResOK.one Try.results43 rfl) [] [] trivial rfl ?_
      obtain rfl := Option.some.inj h
      exact ⟨rfl, rfl⟩
    · refine CodeT.block ?_
      refine CodeT.to (CodeT.loop (fun n (z : Int) => ref06_Check_L6 φ v1 (ref06_Check_j4 φ) n z) r (fun z => ⟨Slots.of [(1, (eqv (.pointer (some ⟨b2, 0, none⟩)))), (5, (iv .i64 z))], [(box b2 66 (eCalendar v1))]⟩) (fun z => rfl) (fun n6 v5 ih6 h => ?_) φ 0 h) [0] (sl rfl) (ol rfl) rfl
      replace h : ref06_Check_L6 φ v1 (ref06_Check_j4 φ) (n6 + 1) v5 = some r := h
      rw [ref06_Check_L6] at h
      refine cs (cs (cr [0, 1, 2, 3, 4] rfl ?_))
      refine cq rfl rfl rfl (opMove (mv rfl)) ?_
      refine cq rfl rfl rfl (opFieldP (fo66_1 H) (mv rfl)) ?_
      refine cq rfl rfl rfl (opLoad1 (tl41 H) ((Pt.box 0 (mv rfl) rfl rfl).take 1 (cs' := [(ro eI64 1 v1.fHolidays)]) rfl)) ?_
      refine cq rfl rfl rfl (opLenR (il41 H) (mv rfl)) ?_
      refine cq rfl rfl rfl (opLss (mv rfl) (mv rfl)) ?_
      refine rn (al [1, 5, 34] [0] rfl rfl rfl (sq ?_))
      refine CodeT.cond (decide (v5 < (v1.fHolidays.length : Int))) (evBool (mv rfl)) (fun c7 => ?_) (fun c7 => ?_)
      · rw [if_pos c7] at h
        refine CodeT.skip ?_
        refine al [1, 5] [0] rfl rfl rfl ?_
        refine sq (cs ?_)
        refine CodeT.block ?_
        refine cs (cr [0, 1, 2, 3, 4, 5] rfl ?_)
        refine cq rfl rfl rfl (opFieldP (fo66_1 H) (mv rfl)) ?_
        refine cq rfl rfl rfl (opLoad1 (tl41 H) ((Pt.box 0 (mv rfl) rfl rfl).take 1 (cs' := [(ro eI64 1 v1.fHolidays)]) rfl)) ?_
        refine cq rfl rfl rfl (opMove (mv rfl)) ?_
        refine ckE h fun h8 h => ?_
        refine cq rfl rfl rfl (opIndexR (e := eI64) (y := (gt v1.fHolidays v5)) (ix41 H) (mv rfl) (mv rfl) (h8).1 (gt_some h8)) ?_
        refine cq rfl rfl rfl (opLoad1 (tl3 H) (Pt.rop (mv rfl))) ?_
        refine cq rfl rfl rfl (opAssign (mv rfl)) ?_
        refine rn (al [1, 5, 6] [0] rfl rfl rfl (sq (cs (cr [0, 1, 2, 3, 4, 5, 6, 7, 8, 9, 10, 11, 12, 13, 14, 15, 16, 17, 18, 19] rfl ?_))))
        refine cq rfl rfl rfl (opMove (mv rfl)) ?_
        refine cq rfl rfl rfl (opLss (mv rfl) (Ev.const _)) ?_
        refine cq rfl rfl rfl (opMove (mv rfl)) ?_
        refine cg rfl rfl rfl rfl rfl (fun g9 => opMove (mv rfl)) ?_
        refine cg rfl rfl rfl rfl rfl (fun g10 => opGtr (Ev.cnd (mv rfl) g10) (Ev.const _)) ?_
        refine cq rfl rfl rfl (opOr (mv rfl) (Ev.const _) (fun g11 => (Ev.cnd (mv rfl) g11))) ?_
        refine cq rfl rfl rfl (opMove (mv rfl)) ?_
        refine cg rfl rfl rfl rfl rfl (fun g12 => opMove (mv rfl)) ?_
        refine cg rfl rfl rfl rfl rfl (fun g13 => opGtr (Ev.cnd (mv rfl) g13) (Ev.const _)) ?_
        refine cg rfl rfl rfl rfl rfl (fun g14 => opMove (Ev.cnd (mv rfl) g14)) ?_
        refine RunOps.cons_gc (eqv (.pointer (some ⟨b2, 14, none⟩))) ((decide ((gt v1.fHolidays v5) < 0) || decide (745654 < (gt v1.fHolidays v5))) = false) (decide (0 < v5)) rfl rfl rfl rfl rfl (fun g15 => (opFieldP (fo66_1 H) (mv rfl))) ?_
        refine RunOps.cons_gc (ro eI64 1 v1.fHolidays) ((decide ((gt v1.fHolidays v5) < 0) || decide (745654 < (gt v1.fHolidays v5))) = false) (decide (0 < v5)) rfl rfl rfl rfl rfl (fun g16 => (opLoad1 (tl41 H) ((Pt.box 0 (Ev.cnd (mv rfl) ⟨g16.1, g16.2⟩) rfl rfl).take 1 (cs' := [(ro eI64 1 v1.fHolidays)]) rfl))) ?_
        refine RunOps.cons_gc (iv .i64 v5) ((decide ((gt v1.fHolidays v5) < 0) || decide (745654 < (gt v1.fHolidays v5))) = false) (decide (0 < v5)) rfl rfl rfl rfl rfl (fun g17 => (opMove (mv rfl))) ?_
        refine RunOps.cons_gc (iv .i64 (W (v5 - 1))) ((decide ((gt v1.fHolidays v5) < 0) || decide (745654 < (gt v1.fHolidays v5))) = false) (decide (0 < v5)) rfl rfl rfl rfl rfl (fun g18 => (opSub (Ev.cnd (mv rfl) ⟨g18.1, g18.2⟩) (Ev.const _))) ?_
        refine ckE h fun h20 h => ?_
        refine RunOps.cons_gc (rop [(iv .i64 (gt v1.fHolidays (W (v5 - 1))))]) ((decide ((gt v1.fHolidays v5) < 0) || decide (745654 < (gt v1.fHolidays v5))) = false) (decide (0 < v5)) rfl rfl rfl rfl rfl (fun g19 => (opIndexR (e := eI64) (y := (gt v1.fHolidays (W (v5 - 1)))) (ix41 H) (Ev.cnd (mv rfl) ⟨g19.1, g19.2⟩) (Ev.cnd (mv rfl) ⟨g19.1, g19.2⟩) ((h20 g19)).1 (gt_some (h20 g19)))) ?_
        refine RunOps.cons_gc (iv .i64 (gt v1.fHolidays (W (v5 - 1)))) ((decide ((gt v1.fHolidays v5) < 0) || decide (745654 < (gt v1.fHolidays v5))) = false) (decide (0 < v5)) rfl rfl rfl rfl rfl (fun g21 => (opLoad1 (tl3 H) (Pt.rop (Ev.cnd (mv rfl) ⟨g21.1, g21.2⟩)))) ?_
        refine RunOps.cons_gc (iv .i64 (gt v1.fHolidays v5)) ((decide ((gt v1.fHolidays v5) < 0) || decide (745654 < (gt v1.fHolidays v5))) = false) (decide (0 < v5)) rfl rfl rfl rfl rfl (fun g22 => (opMove (mv rfl))) ?_
        refine RunOps.cons_gc (bv (decide ((gt v1.fHolidays v5) ≤ (gt v1.fHolidays (W (v5 - 1)))))) ((decide ((gt v1.fHolidays v5) < 0) || decide (745654 < (gt v1.fHolidays v5))) = false) (decide (0 < v5)) rfl rfl rfl rfl rfl (fun g23 => (opGeq (Ev.cnd (mv rfl) ⟨g23.1, g23.2⟩) (Ev.cnd (mv rfl) ⟨g23.1, g23.2⟩))) ?_
        refine cg rfl rfl rfl rfl rfl (fun g24 => opAnd (Ev.cnd (mv rfl) g24) (fun g25 => (Ev.cnd (mv rfl) ⟨g24, g25⟩)) (Ev.const _)) ?_
        refine cq rfl rfl rfl (opOr (mv rfl) (Ev.const _) (fun g26 => (Ev.cnd (mv rfl) g26))) ?_
        refine rn (al [1, 5, 61] [0] rfl rfl rfl (sq ?_))
        refine CodeT.cond ((decide ((gt v1.fHolidays v5) < 0) || decide (745654 < (gt v1.fHolidays v5))) || (decide (0 < v5) && decide ((gt v1.fHolidays v5) ≤ (gt v1.fHolidays (W (v5 - 1)))))) (evBool (mv rfl)) (fun c27 => ?_) (fun c27 => ?_)
        · rw [if_pos c27] at h
          refine cs (cr [0] rfl ?_)
          refine cq rfl rfl rfl (opAssign (Ev.const _)) ?_
          refine rn (al [2] [] rfl rfl rfl (sq ?_))
          refine CodeT.ret ?_
          refine AtX.in_ret ?_
          refine AtX.then_ret ?_
          refine AtX.then_ret ?_
          refine AtX.in_ret ?_
          refine AtX.then_ret ?_
          refine AtX.ret' (iv .i64 1) (ResOK.one Try.results43 rfl) [] [] trivial rfl ?_
          obtain rfl := Option.some.inj h
          exact ⟨rfl, rfl⟩
        · rw [if_neg (bne_true c27)] at h
          refine CodeT.skip ?_
          refine AtX.in_normal ?_
          refine al [1, 5] [0] rfl rfl rfl ?_
          refine sq (cr [0, 1, 2] rfl ?_)
          refine cq rfl rfl rfl (opMove (mv rfl)) ?_
          refine cq rfl rfl rfl (opAdd (mv rfl) (Ev.const _)) ?_
          refine cq rfl rfl rfl (opAssign (mv rfl)) ?_
          refine rn ?_
          exact AtX.to (ih6 (W (v5 + 1)) h) [0] (sl rfl) (ol rfl) rfl
      · rw [if_neg (bne_true c7)] at h
        refine CodeT.exit ?_
        refine AtX.then_exit ?_
        refine AtX.then_exit ?_
        refine AtX.in_hit ?_
        exact AtX.to (hJ4 () h) [] trivial trivial rfl
  · refine CodeT.block ?_
    refine CodeT.to (CodeT.loop (fun n (z : Int) => ref06_Check_L29 φ v1 (ref06_Check_j3 φ v1) n z) r (fun z => ⟨Slots.of [(1, (eqv (.pointer (some ⟨b2, 0, none⟩)))), (3, (iv .i64 z))], [(box b2 66 (eCalendar v1))]⟩) (fun z => rfl) (fun n29 v28 ih29 h => ?_) φ 0 h) [0] (sl rfl) (ol rfl) rfl
    replace h : ref06_Check_L29 φ v1 (ref06_Check_j3 φ v1) (n29 + 1) v28 = some r := h
    rw [ref06_Check_L29] at h
    refine cs (cs (cr [0, 1] rfl ?_))
    refine cq rfl rfl rfl (opMove (mv rfl)) ?_
    refine cq rfl rfl rfl (opLss (mv rfl) (Ev.const _)) ?_
    refine rn (al [1, 3, 8] [0] rfl rfl rfl (sq ?_))
    refine CodeT.cond (decide (v28 < 7)) (evBool (mv rfl)) (fun c30 => ?_) (fun c30 => ?_)
    · rw [if_pos c30] at h
      refine CodeT.skip ?_
      refine al [1, 3] [0] rfl rfl rfl ?_
      refine sq (cs ?_)
      refine CodeT.block ?_
      refine cs (cr [0, 1, 2, 3, 4, 5] rfl ?_)
      refine cq rfl rfl rfl (opMove (mv rfl)) ?_
      refine cq rfl rfl rfl (opFieldP (fo66_0 H) (mv rfl)) ?_
      refine ckE h fun h31 h => ?_
      refine cq rfl rfl rfl (opIndexA (ix64 H) (mv rfl) (mv rfl) (h31).1 (h31).2) ?_
      refine RunOps.cons_q (agg (eSpan (v1.fOpen ((v28 : Int).toNat)))) rfl rfl rfl (opLoadN (tl63 H) (Pt.ofArr (e := eSpan) 0 (off := 0 + (v28 : Int).toNat * 2) (k := (v28 : Int).toNat) (mv rfl) rfl lSpan (by have hb0 := h31; simp only [List.length_nil, List.length_cons] <;> omega) (by have hb0 := h31; omega))) ?_
      refine RunOps.cons rfl rfl rfl (opAlloc [.int .i64 0, .int .i64 0] (ze63 H) rfl fun b32 => ?_)
      refine RunOps.cons rfl rfl rfl (opStore 1 (cells := [(iv .i64 0), (iv .i64 0)]) (cs := (eSpan (v1.fOpen ((v28 : Int).toNat)))) (out := (eSpan (v1.fOpen ((v28 : Int).toNat)))) (tl63 H) (mv rfl) (Ce.agg (mv rfl)) rfl rfl (Nat.le_of_ble_eq_true rfl) rfl ?_)
      refine rn (al [1, 3, 4] [0, 1] rfl rfl rfl (sq (cs (cr [0, 1, 2, 3, 4, 5, 6, 7, 8, 9, 10, 11, 12, 13, 14] rfl ?_))))
      refine cq rfl rfl rfl (opFieldP (fo63_0 H) (mv rfl)) ?_
      refine cq rfl rfl rfl (opLoad1 (tl3 H) ((Pt.box 1 (mv rfl) rfl rfl).take 1 (cs' := [(iv .i64 ((v1.fOpen ((v28 : Int).toNat)).fFrom))]) rfl)) ?_
      refine cq rfl rfl rfl (opLss (mv rfl) (Ev.const _)) ?_
      refine cq rfl rfl rfl (opMove (mv rfl)) ?_
      refine cg rfl rfl rfl rfl rfl (fun g33 => opFieldP (fo63_1 H) (mv rfl)) ?_
      refine cg rfl rfl rfl rfl rfl (fun g34 => opLoad1 (tl3 H) ((Pt.box 1 (Ev.cnd (mv rfl) g34) rfl rfl).take 1 (cs' := [(iv .i64 ((v1.fOpen ((v28 : Int).toNat)).fTo))]) rfl)) ?_
      refine cg rfl rfl rfl rfl rfl (fun g35 => opFieldP (fo63_0 H) (mv rfl)) ?_
      refine cg rfl rfl rfl rfl rfl (fun g36 => opLoad1 (tl3 H) ((Pt.box 1 (Ev.cnd (mv rfl) g36) rfl rfl).take 1 (cs' := [(iv .i64 ((v1.fOpen ((v28 : Int).toNat)).fFrom))]) rfl)) ?_
      refine cg rfl rfl rfl rfl rfl (fun g37 => opLss (Ev.cnd (mv rfl) g37) (Ev.cnd (mv rfl) g37)) ?_
      refine cq rfl rfl rfl (opOr (mv rfl) (Ev.const _) (fun g38 => (Ev.cnd (mv rfl) g38))) ?_
      refine cq rfl rfl rfl (opMove (mv rfl)) ?_
      refine cg rfl rfl rfl rfl rfl (fun g39 => opFieldP (fo63_1 H) (mv rfl)) ?_
      refine cg rfl rfl rfl rfl rfl (fun g40 => opLoad1 (tl3 H) ((Pt.box 1 (Ev.cnd (mv rfl) g40) rfl rfl).take 1 (cs' := [(iv .i64 ((v1.fOpen ((v28 : Int).toNat)).fTo))]) rfl)) ?_
      refine cg rfl rfl rfl rfl rfl (fun g41 => opGtr (Ev.cnd (mv rfl) g41) (Ev.const _)) ?_
      refine cq rfl rfl rfl (opOr (mv rfl) (Ev.const _) (fun g42 => (Ev.cnd (mv rfl) g42))) ?_
      refine rn (al [1, 3, 29] [0] rfl rfl rfl (sq ?_))
      refine CodeT.cond ((decide ((v1.fOpen ((v28 : Int).toNat)).fFrom < 0) || decide ((v1.fOpen ((v28 : Int).toNat)).fTo < (v1.fOpen ((v28 : Int).toNat)).fFrom)) || decide (1440 < (v1.fOpen ((v28 : Int).toNat)).fTo)) (evBool (mv rfl)) (fun c43 => ?_) (fun c43 => ?_)
      · rw [if_pos c43] at h
        refine cs (cr [0] rfl ?_)
        refine cq rfl rfl rfl (opAssign (Ev.const _)) ?_
        refine rn (al [2] [] rfl rfl rfl (sq ?_))
        refine CodeT.ret ?_
        refine AtX.in_ret ?_
        refine AtX.then_ret ?_
        refine AtX.then_ret ?_
        refine AtX.in_ret ?_
        refine AtX.then_ret ?_
        refine AtX.ret' (iv .i64 1) (ResOK.one Try.results43 rfl) [] [] trivial rfl ?_
        obtain rfl := Option.some.inj h
        exact ⟨rfl, rfl⟩
      · rw [if_neg (bne_true c43)] at h
        refine CodeT.skip ?_
        refine AtX.in_normal ?_
        refine al [1, 3] [0] rfl rfl rfl ?_
        refine sq (cr [0, 1, 2] rfl ?_)
        refine cq rfl rfl rfl (opMove (mv rfl)) ?_
        refine cq rfl rfl rfl (opAdd (mv rfl) (Ev.const _)) ?_
        refine cq rfl rfl rfl (opAssign (mv rfl)) ?_
        refine rn ?_
        exact AtX.to (ih29 (W (v28 + 1)) h) [0] (sl rfl) (ol rfl) rfl
    · rw [if_neg (bne_true c30)] at h
      refine CodeT.exit ?_
      refine AtX.then_exit ?_
      refine AtX.then_exit ?_
      refine AtX.in_hit ?_
      exact AtX.to (hJ3 () h) [0] (sl rfl) (ol rfl) rfl
theorem sign_Pow_ok {P : Program} (H : P = Try.prog) (φ : Nat) (v1 : Int) (v2 : Int) (r : (Int)) (h : sign_Pow φ v1 v2 = some r) : PureT P 46 [(iv .u64 v1), (iv .u64 v2)] (fun x news => x = (iv .u64 r) ∧ news = []) := by
  unfold sign_Pow at h
  refine PureT.of_code' 33 (fn46 H) rfl rfl (Nat.le_of_ble_eq_true rfl) fun w0 base r0 wI => ?_
  refine cl [0, 1] [] rfl rfl rfl ?_
  refine cs (cr [0] rfl ?_)
  refine cq rfl rfl rfl (opAssign (Ev.const _)) ?_
  refine rn (al [0, 1] [] rfl rfl rfl (sq (cs (cr [0, 1] rfl ?_))))
  refine RunOps.cons rfl rfl rfl (opCallT (fnok55 H) (Ev.func _) (args := [(iv .u64 2305843009213690799)]) ⟨(Ev.const _), trivial⟩ (CallT.of_code' 4 (fn55 H) rfl rfl (Nat.le_of_ble_eq_true rfl) fun r02 wI2 => ?_))
  refine cl [0] [] rfl rfl rfl ?_
  refine cs (cr [0, 1] rfl ?_)
  refine RunOps.cons rfl rfl rfl (opBox (cs := [(iv .u64 2305843009213690799)]) (Ce.one (mv rfl) (One.eqv rfl)) fun b3 => ?_)
  refine cq rfl rfl rfl (opAssign (Ev.const _)) ?_
  refine rn (al [1] [0] rfl rfl rfl (sq (cs (cr [0, 1] rfl ?_))))
  refine cq rfl rfl rfl (opMakeFunc (vs := #[(.pointer (some ⟨b3, 0, none⟩))]) (fun a r w hs => capN ⟨Ev.val (mv rfl) a r w hs, trivial⟩)) ?_
  refine cq rfl rfl rfl (opAssign (mv rfl)) ?_
  refine rn (al [2] [0] rfl rfl rfl (sq ?_))
  refine CodeT.ret ?_
  refine AtX.ret' (eqv (.func (.func 60) #[] #[(.pointer (some ⟨b3, 0, none⟩))])) (ResOK.one Try.results55 rfl) [0] [(box b3 48 [(iv .u64 2305843009213690799)])] (ol rfl) rfl ?_
  refine cq rfl rfl rfl (opAssign (mv rfl)) ?_
  refine rn (al [0, 1, 5] [0] rfl rfl rfl (sq (cs (cr [0] rfl ?_))))
  refine cq rfl rfl rfl (opAssign (Ev.const _)) ?_
  refine rn (al [0, 1, 5, 6] [0] rfl rfl rfl (sq (cs (cs (cr [0, 1, 2] rfl ?_)))))
  refine cq rfl rfl rfl (opMove (mv rfl)) ?_
  refine bindE h fun y4 ey4 h => ?_
  refine cq rfl rfl rfl (opCallQ (fnok56 H) (args := [(iv .u64 v2)]) ⟨EvF.of (mv rfl) FEnt.refl, trivial⟩ (bits_Len64_ok H φ v2 _ ey4) flat_eqv) ?_
  refine cq rfl rfl rfl (opMove (Ev.const _)) ?_
  refine rn (al [0, 1, 5, 6, 10, 11] [0] rfl rfl rfl (sq ?_))
  refine CodeT.join (fun z : Int => (sign_Pow_j6 φ) z) r (fun z => ⟨Slots.of [(6, (iv .u64 z))], []⟩) (fun v5 h => ?_) (fun hJ6 => ?_)
  · replace h : (sign_Pow_j6 φ) v5 = some r := h
    unfold sign_Pow_j6 at h
    refine al [6] [] rfl rfl rfl ?_
    refine sq (cs (cr [0, 1] rfl ?_))
    refine cq rfl rfl rfl (opMove (mv rfl)) ?_
    refine cq rfl rfl rfl (opAssign (mv rfl)) ?_
    refine rn (al [4] [] rfl rfl rfl (sq ?_))
    refine CodeT.ret ?_
    refine AtX.ret' (iv .u64 v5) (ResOK.one Try.results46 rfl) [] [] trivial rfl ?_
    obtain rfl := Option.some.inj h
    exact ⟨rfl, rfl⟩
  · refine CodeT.block ?_
    refine CodeT.to (CodeT.loop (fun n (z : Int × Int) => sign_Pow_L9 φ v1 v2 y4 (sign_Pow_j6 φ) n z.1 z.2) r (fun z => ⟨Slots.of [(0, (iv .u64 v1)), (1, (iv .u64 v2)), (5, (eqv (.func (.func 60) #[] #[(.pointer (some ⟨b3, 0, none⟩))]))), (6, (iv .u64 z.1)), (10, (iv .i64 y4)), (11, (iv .i64 z.2))], [(box b3 48 [(iv .u64 2305843009213690799)])]⟩) (fun z => rfl) (fun n9 z ih9 h => ?_) φ (1, 0) h) [0] (sl rfl) (ol rfl) rfl
    obtain ⟨v7, v8⟩ := z
    replace h : sign_Pow_L9 φ v1 v2 y4 (sign_Pow_j6 φ) (n9 + 1) v7 v8 = some r := h
    rw [sign_Pow_L9] at h
    refine cs (cr [0] rfl ?_)
    refine cq rfl rfl rfl (opLss (mv rfl) (mv rfl)) ?_
    refine rn (al [0, 1, 5, 6, 10, 11, 12] [0] rfl rfl rfl (sq (cs ?_)))
    refine CodeT.cond (decide (v8 < y4)) (evBool (mv rfl)) (fun c10 => ?_) (fun c10 => ?_)
    · rw [if_pos c10] at h
      refine CodeT.skip ?_
      refine al [0, 1, 5, 6, 10, 11] [0] rfl rfl rfl ?_
      refine sq (cs ?_)
      refine CodeT.block ?_
      refine cs (cr [0, 1] rfl ?_)
      refine cq rfl rfl rfl (opMove (mv rfl)) ?_
      refine cq rfl rfl rfl (opAssign (mv rfl)) ?_
      refine rn (al [0, 1, 5, 6, 7, 10, 11] [0] rfl rfl rfl (sq (cs (cr [0, 1, 2, 3, 4] rfl ?_))))
      refine cq rfl rfl rfl (opMove (mv rfl)) ?_
      refine cq rfl rfl rfl (opMove (mv rfl)) ?_
      refine cq rfl rfl rfl (opMove (mv rfl)) ?_
      refine RunOps.cons rfl rfl rfl (opCallT (fnok60 H) (mv rfl) (args := [(iv .u64 v7), (iv .u64 v7)]) ⟨(mv rfl), (mv rfl), trivial⟩ (CallT.of_code' 28 (fn60 H) rfl rfl (Nat.le_of_ble_eq_true rfl) fun r010 wI10 => ?_))
      refine cl [0, 1, 2] [0] rfl rfl rfl ?_
      refine cs (cr [0] rfl ?_)
      refine cq rfl rfl rfl (opAssign (Ev.const _)) ?_
      refine rn (al [0, 1, 2] [0] rfl rfl rfl (sq (cs ?_)))
      refine bindE h fun y11 ey11 h => ?_
      refine CodeT.draw (QR := [(0, (iv .u64 v7)), (1, (iv .u64 2305843009213690799)), (2, (iv .u64 (v7.tmod 2305843009213690799))), (3, (iv .u64 v7)), (4, (iv .u64 2305843009213690799)), (5, (iv .u64 (v7.tmod 2305843009213690799))), (6, (tupv [(iv .u64 y11.1), (iv .u64 y11.2)])), (7, (tupv [(iv .u64 y11.1), (iv .u64 y11.2)])), (8, (iv .u64 y11.1)), (9, (iv .u64 y11.2)), (10, (iv .u64 y11.1)), (11, (iv .u64 y11.2))]) (tab := [(some 11, []), (some 12, []), (some 13, [0, 1]), (some 14, []), (some 15, []), (some 16, [3, 4]), (some 17, [2, 5]), (some 10, [6]), (some 18, [7]), (some 19, [7]), (some 6, [8, 6, 0, 1, 2, 3, 4, 5, 6, 7, 8]), (some 7, [9, 10, 0, 1, 2, 3, 4, 5, 6, 7, 8, 9, 10])]) (mixed H) ?_
      refine Reg.intro [] [] (by kernel_rfl) rfl ⟨rfl, rfl, rfl, rfl, rfl, rfl, rfl, rfl, rfl, rfl, rfl, rfl, trivial⟩ ⟨(fun _ => ⟨_, rfl, (opMove (mv rfl))⟩), (fun _ => ⟨_, rfl, (opLoad1 (tl48 H) ((Pt.box 0 (mv rfl) rfl rfl).take 1 (cs' := [(iv .u64 2305843009213690799)]) rfl))⟩), (fun _ => ⟨_, rfl, (opRem (mv rfl) (mv rfl) (by decide))⟩), (fun _ => ⟨_, rfl, (opMove (mv rfl))⟩), (fun _ => ⟨_, rfl, (opLoad1 (tl48 H) ((Pt.box 0 (mv rfl) rfl rfl).take 1 (cs' := [(iv .u64 2305843009213690799)]) rfl))⟩), (fun _ => ⟨_, rfl, (opRem (mv rfl) (mv rfl) (by decide))⟩), (fun _ => ⟨_, rfl, (opCallQ (fnok48 H) (args := [(iv .u64 (v7.tmod 2305843009213690799)), (iv .u64 (v7.tmod 2305843009213690799))]) ⟨EvF.of (mv rfl) FEnt.refl, EvF.of (mv rfl) FEnt.refl, trivial⟩ (bits_Mul64_ok H φ (v7.tmod 2305843009213690799) (v7.tmod 2305843009213690799) _ ey11) (flat_tup' ⟨flat_eqv, flat_eqv, trivial⟩))⟩), (fun _ => ⟨_, rfl, (opMove (mv rfl))⟩), (fun _ => ⟨_, rfl, (opExtract (mv rfl) rfl)⟩), (fun _ => ⟨_, rfl, (opExtract (mv rfl) rfl)⟩), (fun _ => ⟨_, rfl, (opAssign (mv rfl))⟩), (fun _ => ⟨_, rfl, (opAssign (mv rfl))⟩), trivial⟩ trivial (fun _ => ?_)
      refine al [2, 6, 7] [0] rfl rfl rfl ?_
      refine sq (cs (cr [0, 1, 2, 3, 4, 5, 6, 7, 8] rfl ?_))
      refine cq rfl rfl rfl (opMove (mv rfl)) ?_
      refine cq rfl rfl rfl (opMove (mv rfl)) ?_
      refine cq rfl rfl rfl (opLoad1 (tl48 H) ((Pt.box 0 (mv rfl) rfl rfl).take 1 (cs' := [(iv .u64 2305843009213690799)]) rfl)) ?_
      refine bindE h fun y12 ey12 h => ?_
      refine cq rfl rfl rfl (opCallQ (fnok49 H) (args := [(iv .u64 y11.1), (iv .u64 y11.2), (iv .u64 2305843009213690799)]) ⟨EvF.of (mv rfl) FEnt.refl, EvF.of (mv rfl) FEnt.refl, EvF.of (mv rfl) FEnt.refl, trivial⟩ (bits_Div64_ok H φ y11.1 y11.2 2305843009213690799 _ ey12) (flat_tup' ⟨flat_eqv, flat_eqv, trivial⟩)) ?_
      refine cq rfl rfl rfl (opMove (mv rfl)) ?_
      refine cq rfl rfl rfl (opExtract (mv rfl) rfl) ?_
      refine cq rfl rfl rfl (opExtract (mv rfl) rfl) ?_
      refine cq rfl rfl rfl (opAssign (mv rfl)) ?_
      refine cq rfl rfl rfl (opAssign (mv rfl)) ?_
      refine rn (al [9] [0] rfl rfl rfl (sq (cs (cr [0, 1] rfl ?_))))
      refine cq rfl rfl rfl (opMove (mv rfl)) ?_
      refine cq rfl rfl rfl (opAssign (mv rfl)) ?_
      refine rn (al [5] [0] rfl rfl rfl (sq ?_))
      refine CodeT.ret ?_
      refine AtX.ret' (iv .u64 y12.2) (ResOK.one Try.results60 rfl) [0] [(box b3 48 [(iv .u64 2305843009213690799)])] (ol rfl) rfl ?_
      refine cq rfl rfl rfl (opAssign (mv rfl)) ?_
      refine rn (al [0, 1, 5, 6, 7, 10, 11] [0] rfl rfl rfl (sq (cs (cr [0, 1, 2, 3, 4, 5, 6, 7, 8] rfl ?_))))
      refine cq rfl rfl rfl (opMove (mv rfl)) ?_
      refine cq rfl rfl rfl (opMove (mv rfl)) ?_
      refine bindE h fun y13 ey13 h => ?_
      refine cq rfl rfl rfl (opCallQ (fnok56 H) (args := [(iv .u64 v2)]) ⟨EvF.of (mv rfl) FEnt.refl, trivial⟩ (bits_Len64_ok H φ v2 _ ey13) flat_eqv) ?_
      refine cq rfl rfl rfl (opSub (mv rfl) (Ev.const _)) ?_
      refine cq rfl rfl rfl (opMove (mv rfl)) ?_
      refine cq rfl rfl rfl (opSub (mv rfl) (mv rfl)) ?_
      refine ckE h fun h14 h => ?_
      refine cq rfl rfl rfl (opShr (mv rfl) (mv rfl) h14) ?_
      refine cq rfl rfl rfl (opBand (mv rfl) (Ev.const _)) ?_
      refine cq rfl rfl rfl (opEql (mv rfl) (Ev.const _)) ?_
      refine rn (al [0, 1, 5, 6, 10, 11, 26] [0] rfl rfl rfl (sq ?_))
      refine CodeT.join (fun z : Int => (sign_Pow_j16 φ v8 (sign_Pow_L9 φ v1 v2 y4 (sign_Pow_j6 φ) n9)) z) r (fun z => ⟨Slots.of [(0, (iv .u64 v1)), (1, (iv .u64 v2)), (5, (eqv (.func (.func 60) #[] #[(.pointer (some ⟨b3, 0, none⟩))]))), (6, (iv .u64 z)), (10, (iv .i64 y4)), (11, (iv .i64 v8))], [(box b3 48 [(iv .u64 2305843009213690799)])]⟩) (fun v15 h => ?_) (fun hJ16 => ?_)
      · replace h : (sign_Pow_j16 φ v8 (sign_Pow_L9 φ v1 v2 y4 (sign_Pow_j6 φ) n9)) v15 = some r := h
        unfold sign_Pow_j16 at h
        refine AtX.in_normal ?_
        refine al [0, 1, 5, 6, 10, 11] [0] rfl rfl rfl ?_
        refine sq (cr [0, 1] rfl ?_)
        refine cq rfl rfl rfl (opAdd (mv rfl) (Ev.const _)) ?_
        refine cq rfl rfl rfl (opMove (mv rfl)) ?_
        refine rn ?_
        exact AtX.to (ih9 (v15, (W (v8 + 1))) h) [0] (sl rfl) (ol rfl) rfl
      · refine CodeT.cond ((U ((BitVec.ofInt (IntKind.bits .u64) (v2.fdiv (2 ^ (min ((W ((W (y13 - 1)) - v8)) : Int).toNat (IntKind.bits .u64)))) &&& BitVec.ofInt (IntKind.bits .u64) 1).toNat)) == 1) (evBool (mv rfl)) (fun c17 => ?_) (fun c17 => ?_)
        · rw [if_pos c17] at h
          refine cr [0, 1, 2, 3, 4] rfl ?_
          refine cq rfl rfl rfl (opMove (mv rfl)) ?_
          refine cq rfl rfl rfl (opMove (mv rfl)) ?_
          refine cq rfl rfl rfl (opMove (mv rfl)) ?_
          refine RunOps.cons rfl rfl rfl (opCallT (fnok60 H) (mv rfl) (args := [(iv .u64 y12.2), (iv .u64 v1)]) ⟨(mv rfl), (mv rfl), trivial⟩ (CallT.of_code' 28 (fn60 H) rfl rfl (Nat.le_of_ble_eq_true rfl) fun r017 wI17 => ?_))
          refine cl [0, 1, 2] [0] rfl rfl rfl ?_
          refine cs (cr [0] rfl ?_)
          refine cq rfl rfl rfl (opAssign (Ev.const _)) ?_
          refine rn (al [0, 1, 2] [0] rfl rfl rfl (sq (cs ?_)))
          refine bindE h fun y18 ey18 h => ?_
          refine CodeT.draw (QR := [(0, (iv .u64 y12.2)), (1, (iv .u64 2305843009213690799)), (2, (iv .u64 (y12.2.tmod 2305843009213690799))), (3, (iv .u64 v1)), (4, (iv .u64 2305843009213690799)), (5, (iv .u64 (v1.tmod 2305843009213690799))), (6, (tupv [(iv .u64 y18.1), (iv .u64 y18.2)])), (7, (tupv [(iv .u64 y18.1), (iv .u64 y18.2)])), (8, (iv .u64 y18.1)), (9, (iv .u64 y18.2)), (10, (iv .u64 y18.1)), (11, (iv .u64 y18.2))]) (tab := [(some 11, []), (some 12, []), (some 13, [0, 1]), (some 14, []), (some 15, []), (some 16, [3, 4]), (some 17, [2, 5]), (some 10, [6]), (some 18, [7]), (some 19, [7]), (some 6, [8, 6, 0, 1, 2, 3, 4, 5, 6, 7, 8]), (some 7, [9, 10, 0, 1, 2, 3, 4, 5, 6, 7, 8, 9, 10])]) (mixed H) ?_
          refine Reg.intro [] [] (by kernel_rfl) rfl ⟨rfl, rfl, rfl, rfl, rfl, rfl, rfl, rfl, rfl, rfl, rfl, rfl, trivial⟩ ⟨(fun _ => ⟨_, rfl, (opMove (mv rfl))⟩), (fun _ => ⟨_, rfl, (opLoad1 (tl48 H) ((Pt.box 0 (mv rfl) rfl rfl).take 1 (cs' := [(iv .u64 2305843009213690799)]) rfl))⟩), (fun _ => ⟨_, rfl, (opRem (mv rfl) (mv rfl) (by decide))⟩), (fun _ => ⟨_, rfl, (opMove (mv rfl))⟩), (fun _ => ⟨_, rfl, (opLoad1 (tl48 H) ((Pt.box 0 (mv rfl) rfl rfl).take 1 (cs' := [(iv .u64 2305843009213690799)]) rfl))⟩), (fun _ => ⟨_, rfl, (opRem (mv rfl) (mv rfl) (by decide))⟩), (fun _ => ⟨_, rfl, (opCallQ (fnok48 H) (args := [(iv .u64 (y12.2.tmod 2305843009213690799)), (iv .u64 (v1.tmod 2305843009213690799))]) ⟨EvF.of (mv rfl) FEnt.refl, EvF.of (mv rfl) FEnt.refl, trivial⟩ (bits_Mul64_ok H φ (y12.2.tmod 2305843009213690799) (v1.tmod 2305843009213690799) _ ey18) (flat_tup' ⟨flat_eqv, flat_eqv, trivial⟩))⟩), (fun _ => ⟨_, rfl, (opMove (mv rfl))⟩), (fun _ => ⟨_, rfl, (opExtract (mv rfl) rfl)⟩), (fun _ => ⟨_, rfl, (opExtract (mv rfl) rfl)⟩), (fun _ => ⟨_, rfl, (opAssign (mv rfl))⟩), (fun _ => ⟨_, rfl, (opAssign (mv rfl))⟩), trivial⟩ trivial (fun _ => ?_)
          refine al [2, 6, 7] [0] rfl rfl rfl ?_
          refine sq (cs (cr [0, 1, 2, 3, 4, 5, 6, 7, 8] rfl ?_))
          refine cq rfl rfl rfl (opMove (mv rfl)) ?_
          refine cq rfl rfl rfl (opMove (mv rfl)) ?_
          refine cq rfl rfl rfl (opLoad1 (tl48 H) ((Pt.box 0 (mv rfl) rfl rfl).take 1 (cs' := [(iv .u64 2305843009213690799)]) rfl)) ?_
          refine bindE h fun y19 ey19 h => ?_
          refine cq rfl rfl rfl (opCallQ (fnok49 H) (args := [(iv .u64 y18.1), (iv .u64 y18.2), (iv .u64 2305843009213690799)]) ⟨EvF.of (mv rfl) FEnt.refl, EvF.of (mv rfl) FEnt.refl, EvF.of (mv rfl) FEnt.refl, trivial⟩ (bits_Div64_ok H φ y18.1 y18.2 2305843009213690799 _ ey19) (flat_tup' ⟨flat_eqv, flat_eqv, trivial⟩)) ?_
          refine cq rfl rfl rfl (opMove (mv rfl)) ?_
          refine cq rfl rfl rfl (opExtract (mv rfl) rfl) ?_
          refine cq rfl rfl rfl (opExtract (mv rfl) rfl) ?_
          refine cq rfl rfl rfl (opAssign (mv rfl)) ?_
          refine cq rfl rfl rfl (opAssign (mv rfl)) ?_
          refine rn (al [9] [0] rfl rfl rfl (sq (cs (cr [0, 1] rfl ?_))))
          refine cq rfl rfl rfl (opMove (mv rfl)) ?_
          refine cq rfl rfl rfl (opAssign (mv rfl)) ?_
          refine rn (al [5] [0] rfl rfl rfl (sq ?_))
          refine CodeT.ret ?_
          refine AtX.ret' (iv .u64 y19.2) (ResOK.one Try.results60 rfl) [0] [(box b3 48 [(iv .u64 2305843009213690799)])] (ol rfl) rfl ?_
          refine cq rfl rfl rfl (opAssign (mv rfl)) ?_
          refine rn ?_
          exact AtX.to (hJ16 y19.2 h) [0] (sl rfl) (ol rfl) rfl
        · rw [if_neg (bne_true c17)] at h
          refine CodeT.skip ?_
          exact AtX.to (hJ16 y12.2 h) [0] (sl rfl) (ol rfl) rfl
    · rw [if_neg (bne_true c10)] at h
      refine CodeT.exit ?_
      refine AtX.then_exit ?_
      refine AtX.then_exit ?_
      refine AtX.in_hit ?_
      exact AtX.to (hJ6 v7 h) [] (sl rfl) trivial rfl
theorem sign_Valid_ok {P : Program} (H : P = Try.prog) (φ : Nat) (v1 : Int) (r : (Bool)) (h : sign_Valid φ v1 = some r) : PureT P 26 [(iv .u64 v1)] (fun x news => x = (bv r) ∧ news = []) := by
  unfold sign_Valid at h
  refine PureT.of_code' 14 (fn26 H) rfl rfl (Nat.le_of_ble_eq_true rfl) fun w0 base r0 wI => ?_
  refine cl [0] [] rfl rfl rfl ?_
  refine cs (cr [0] rfl ?_)
  refine cq rfl rfl rfl (opAssign (Ev.const _)) ?_
  refine rn (al [0] [] rfl rfl rfl (sq (cs (cr [0, 1, 2, 3, 4, 5, 6, 7, 8, 9, 10, 11] rfl ?_))))
  refine cq rfl rfl rfl (opMove (mv rfl)) ?_
  refine cq rfl rfl rfl (opGeq (mv rfl) (Ev.const _)) ?_
  refine cq rfl rfl rfl (opMove (mv rfl)) ?_
  refine cg rfl rfl rfl rfl rfl (fun g2 => opMove (mv rfl)) ?_
  refine cg rfl rfl rfl rfl rfl (fun g3 => opLss (Ev.cnd (mv rfl) g3) (Ev.const _)) ?_
  refine cq rfl rfl rfl (opAnd (mv rfl) (fun g4 => (Ev.cnd (mv rfl) g4)) (Ev.const _)) ?_
  refine cq rfl rfl rfl (opMove (mv rfl)) ?_
  refine cg rfl rfl rfl rfl rfl (fun g5 => opMove (mv rfl)) ?_
  refine bindE h fun y7 ey7 h => ?_
  refine cg rfl rfl rfl rfl rfl (fun g6 => opCallQ (fnok46 H) (args := [(iv .u64 v1), (iv .u64 1152921504606845399)]) ⟨EvF.of (Ev.cnd (mv rfl) g6) FEnt.refl, EvF.of (Ev.const _) FEnt.refl, trivial⟩ (sign_Pow_ok H φ v1 1152921504606845399 _ (gcall_pos ey7 g6)) flat_eqv) ?_
  refine cg rfl rfl rfl rfl rfl (fun g8 => opEql (Ev.cnd (mv rfl) g8) (Ev.const _)) ?_
  refine cq rfl rfl rfl (opAnd (mv rfl) (fun g9 => (Ev.cnd (mv rfl) g9)) (Ev.const _)) ?_
  refine cq rfl rfl rfl (opAssign (mv rfl)) ?_
  refine rn (al [2] [] rfl rfl rfl (sq ?_))
  refine CodeT.ret ?_
  refine AtX.ret' (bv ((decide (2 ≤ v1) && decide (v1 < 2305843009213690799)) && (y7 == 1))) (ResOK.one Try.results26 rfl) [] [] trivial rfl ?_
  obtain rfl := Option.some.inj h
  exact ⟨rfl, rfl⟩
theorem ref03_Times_ok {P : Program} (H : P = Try.prog) (φ : Nat) (v1 : Int) (v2 : Int) (v3 : Int) (r : (Int)) (h : ref03_Times φ v1 v2 v3 = some r) : PureT P 59 [(iv .u64 v1), (iv .u64 v2), (iv .u64 v3)] (fun x news => x = (iv .u64 r) ∧ news = []) := by
  unfold ref03_Times at h
  refine PureT.of_code' 26 (fn59 H) rfl rfl (Nat.le_of_ble_eq_true rfl) fun w0 base r0 wI => ?_
  refine cl [0, 1, 2] [] rfl rfl rfl ?_
  refine cs (cr [0] rfl ?_)
  refine cq rfl rfl rfl (opAssign (Ev.const _)) ?_
  refine rn (al [0, 1, 2] [] rfl rfl rfl (sq (cs (cr [0] rfl ?_))))
  refine cq rfl rfl rfl (opAssign (Ev.const _)) ?_
  refine rn (al [0, 1, 2, 7] [] rfl rfl rfl (sq (cs ?_)))
  refine CodeT.join (fun z : Int => (ref03_Times_j5 φ) z) r (fun z => ⟨Slots.of [(7, (iv .u64 z))], []⟩) (fun v4 h => ?_) (fun hJ5 => ?_)
  · replace h : (ref03_Times_j5 φ) v4 = some r := h
    unfold ref03_Times_j5 at h
    refine al [7] [] rfl rfl rfl ?_
    refine sq (cs (cr [0, 1] rfl ?_))
    refine cq rfl rfl rfl (opMove (mv rfl)) ?_
    refine cq rfl rfl rfl (opAssign (mv rfl)) ?_
    refine rn (al [6] [] rfl rfl rfl (sq ?_))
    refine CodeT.ret ?_
    refine AtX.ret' (iv .u64 v4) (ResOK.one Try.results59 rfl) [] [] trivial rfl ?_
    obtain rfl := Option.some.inj h
    exact ⟨rfl, rfl⟩
  · refine CodeT.block ?_
    refine CodeT.to (CodeT.loop (fun n (z : Int × Int × Int) => ref03_Times_L9 φ v3 (ref03_Times_j5 φ) n z.1 z.2.1 z.2.2) r (fun z => ⟨Slots.of [(0, (iv .u64 z.1)), (1, (iv .u64 z.2.1)), (2, (iv .u64 v3)), (7, (iv .u64 z.2.2))], []⟩) (fun z => rfl) (fun n9 z ih9 h => ?_) φ (v1, v2, 0) h) [] (sl rfl) trivial rfl
    obtain ⟨v6, v7, v8⟩ := z
    replace h : ref03_Times_L9 φ v3 (ref03_Times_j5 φ) (n9 + 1) v6 v7 v8 = some r := h
    rw [ref03_Times_L9] at h
    refine cs (cs (cr [0, 1] rfl ?_))
    refine cq rfl rfl rfl (opMove (mv rfl)) ?_
    refine cq rfl rfl rfl (opGtr (mv rfl) (Ev.const _)) ?_
    refine rn (al [0, 1, 2, 7, 9] [] rfl rfl rfl (sq ?_))
    refine CodeT.cond (decide (0 < v7)) (evBool (mv rfl)) (fun c10 => ?_) (fun c10 => ?_)
    · rw [if_pos c10] at h
      refine CodeT.skip ?_
      refine al [0, 1, 2, 7] [] rfl rfl rfl ?_
      refine sq (cs ?_)
      refine CodeT.block ?_
      refine cs (cs (cr [0, 1, 2] rfl ?_))
      refine cq rfl rfl rfl (opMove (mv rfl)) ?_
      refine cq rfl rfl rfl (opRem (mv rfl) (Ev.const _) (by decide)) ?_
      refine cq rfl rfl rfl (opEql (mv rfl) (Ev.const _)) ?_
      refine rn (al [0, 1, 2, 7, 14] [] rfl rfl rfl (sq ?_))
      refine CodeT.join (fun z : Int => (ref03_Times_j12 φ v3 v6 v7 (ref03_Times_L9 φ v3 (ref03_Times_j5 φ) n9)) z) r (fun z => ⟨Slots.of [(0, (iv .u64 v6)), (1, (iv .u64 v7)), (2, (iv .u64 v3)), (7, (iv .u64 z))], []⟩) (fun v11 h => ?_) (fun hJ12 => ?_)
      · replace h : (ref03_Times_j12 φ v3 v6 v7 (ref03_Times_L9 φ v3 (ref03_Times_j5 φ) n9)) v11 = some r := h
        unfold ref03_Times_j12 at h
        refine al [0, 1, 2, 7] [] rfl rfl rfl ?_
        refine sq (cr [0, 1, 2, 3, 4, 5] rfl ?_)
        refine cq rfl rfl rfl (opMove (mv rfl)) ?_
        refine cq rfl rfl rfl (opMove (mv rfl)) ?_
        refine cq rfl rfl rfl (opAdd (mv rfl) (mv rfl)) ?_
        refine cq rfl rfl rfl (opMove (mv rfl)) ?_
        refine ckE h fun h13 h => ?_
        refine cq rfl rfl rfl (opRem (mv rfl) (mv rfl) h13) ?_
        refine cq rfl rfl rfl (opAssign (mv rfl)) ?_
        refine rn ?_
        refine AtX.in_normal ?_
        refine al [0, 1, 2, 7] [] rfl rfl rfl ?_
        refine sq (cr [0, 1, 2] rfl ?_)
        refine cq rfl rfl rfl (opMove (mv rfl)) ?_
        refine cq rfl rfl rfl (opQuo (mv rfl) (Ev.const _) (by decide)) ?_
        refine cq rfl rfl rfl (opAssign (mv rfl)) ?_
        refine rn ?_
        exact AtX.to (ih9 (((U (v6 + v6)).tmod v3), (U (v7.tdiv 2)), v11) h) [] (sl rfl) trivial rfl
      · refine CodeT.cond ((v7.tmod 2) == 1) (evBool (mv rfl)) (fun c14 => ?_) (fun c14 => ?_)
        · rw [if_pos c14] at h
          refine cr [0, 1, 2, 3, 4, 5] rfl ?_
          refine cq rfl rfl rfl (opMove (mv rfl)) ?_
          refine cq rfl rfl rfl (opMove (mv rfl)) ?_
          refine cq rfl rfl rfl (opAdd (mv rfl) (mv rfl)) ?_
          refine cq rfl rfl rfl (opMove (mv rfl)) ?_
          refine ckE h fun h15 h => ?_
          refine cq rfl rfl rfl (opRem (mv rfl) (mv rfl) h15) ?_
          refine cq rfl rfl rfl (opAssign (mv rfl)) ?_
          refine rn ?_
          exact AtX.to (hJ12 ((U (v8 + v6)).tmod v3) h) [] (sl rfl) trivial rfl
        · rw [if_neg (bne_true c14)] at h
          refine CodeT.skip ?_
          exact AtX.to (hJ12 v8 h) [] (sl rfl) trivial rfl
    · rw [if_neg (bne_true c10)] at h
      refine CodeT.exit ?_
      refine AtX.then_exit ?_
      refine AtX.then_exit ?_
      refine AtX.in_hit ?_
      exact AtX.to (hJ5 v8 h) [] (sl rfl) trivial rfl
theorem ref03_Pow_ok {P : Program} (H : P = Try.prog) (φ : Nat) (v1 : Int) (v2 : Int) (r : (Int)) (h : ref03_Pow φ v1 v2 = some r) : PureT P 54 [(iv .u64 v1), (iv .u64 v2)] (fun x news => x = (iv .u64 r) ∧ news = []) := by
  unfold ref03_Pow at h
  refine PureT.of_code' 22 (fn54 H) rfl rfl (Nat.le_of_ble_eq_true rfl) fun w0 base r0 wI => ?_
  refine cl [0, 1] [] rfl rfl rfl ?_
  refine cs (cr [0] rfl ?_)
  refine cq rfl rfl rfl (opAssign (Ev.const _)) ?_
  refine rn (al [0, 1] [] rfl rfl rfl (sq (cs (cr [0] rfl ?_))))
  refine cq rfl rfl rfl (opAssign (Ev.const _)) ?_
  refine rn (al [0, 1, 5] [] rfl rfl rfl (sq (cs (cs (cr [0, 1, 2] rfl ?_)))))
  refine cq rfl rfl rfl (opMove (mv rfl)) ?_
  refine cq rfl rfl rfl (opRem (mv rfl) (Ev.const _) (by decide)) ?_
  refine cq rfl rfl rfl (opAssign (mv rfl)) ?_
  refine rn (al [0, 1, 5] [] rfl rfl rfl (sq ?_))
  refine CodeT.join (fun z : Int => (ref03_Pow_j4 φ) z) r (fun z => ⟨Slots.of [(5, (iv .u64 z))], []⟩) (fun v3 h => ?_) (fun hJ4 => ?_)
  · replace h : (ref03_Pow_j4 φ) v3 = some r := h
    unfold ref03_Pow_j4 at h
    refine al [5] [] rfl rfl rfl ?_
    refine sq (cs (cr [0, 1] rfl ?_))
    refine cq rfl rfl rfl (opMove (mv rfl)) ?_
    refine cq rfl rfl rfl (opAssign (mv rfl)) ?_
    refine rn (al [4] [] rfl rfl rfl (sq ?_))
    refine CodeT.ret ?_
    refine AtX.ret' (iv .u64 v3) (ResOK.one Try.results54 rfl) [] [] trivial rfl ?_
    obtain rfl := Option.some.inj h
    exact ⟨rfl, rfl⟩
  · refine CodeT.block ?_
    refine CodeT.to (CodeT.loop (fun n (z : Int × Int × Int) => ref03_Pow_L8 φ (ref03_Pow_j4 φ) n z.1 z.2.1 z.2.2) r (fun z => ⟨Slots.of [(0, (iv .u64 z.1)), (1, (iv .u64 z.2.1)), (5, (iv .u64 z.2.2))], []⟩) (fun z => rfl) (fun n8 z ih8 h => ?_) φ ((v1.tmod 2305843009213690799), v2, 1) h) [] (sl rfl) trivial rfl
    obtain ⟨v5, v6, v7⟩ := z
    replace h : ref03_Pow_L8 φ (ref03_Pow_j4 φ) (n8 + 1) v5 v6 v7 = some r := h
    rw [ref03_Pow_L8] at h
    refine cs (cs (cr [0, 1] rfl ?_))
    refine cq rfl rfl rfl (opMove (mv rfl)) ?_
    refine cq rfl rfl rfl (opGtr (mv rfl) (Ev.const _)) ?_
    refine rn (al [0, 1, 5, 9] [] rfl rfl rfl (sq ?_))
    refine CodeT.cond (decide (0 < v6)) (evBool (mv rfl)) (fun c9 => ?_) (fun c9 => ?_)
    · rw [if_pos c9] at h
      refine CodeT.skip ?_
      refine al [0, 1, 5] [] rfl rfl rfl ?_
      refine sq (cs ?_)
      refine CodeT.block ?_
      refine cs (cs (cr [0, 1, 2] rfl ?_))
      refine cq rfl rfl rfl (opMove (mv rfl)) ?_
      refine cq rfl rfl rfl (opRem (mv rfl) (Ev.const _) (by decide)) ?_
      refine cq rfl rfl rfl (opEql (mv rfl) (Ev.const _)) ?_
      refine rn (al [0, 1, 5, 14] [] rfl rfl rfl (sq ?_))
      refine CodeT.join (fun z : Int => (ref03_Pow_j11 φ v5 v6 (ref03_Pow_L8 φ (ref03_Pow_j4 φ) n8)) z) r (fun z => ⟨Slots.of [(0, (iv .u64 v5)), (1, (iv .u64 v6)), (5, (iv .u64 z))], []⟩) (fun v10 h => ?_) (fun hJ11 => ?_)
      · replace h : (ref03_Pow_j11 φ v5 v6 (ref03_Pow_L8 φ (ref03_Pow_j4 φ) n8)) v10 = some r := h
        unfold ref03_Pow_j11 at h
        refine al [0, 1, 5] [] rfl rfl rfl ?_
        refine sq (cr [0, 1, 2, 3] rfl ?_)
        refine cq rfl rfl rfl (opMove (mv rfl)) ?_
        refine cq rfl rfl rfl (opMove (mv rfl)) ?_
        refine bindE h fun y12 ey12 h => ?_
        refine cq rfl rfl rfl (opCallQ (fnok59 H) (args := [(iv .u64 v5), (iv .u64 v5), (iv .u64 2305843009213690799)]) ⟨EvF.of (mv rfl) FEnt.refl, EvF.of (mv rfl) FEnt.refl, EvF.of (Ev.const _) FEnt.refl, trivial⟩ (ref03_Times_ok H φ v5 v5 2305843009213690799 _ ey12) flat_eqv) ?_
        refine cq rfl rfl rfl (opAssign (mv rfl)) ?_
        refine rn ?_
        refine AtX.in_normal ?_
        refine al [0, 1, 5] [] rfl rfl rfl ?_
        refine sq (cr [0, 1, 2] rfl ?_)
        refine cq rfl rfl rfl (opMove (mv rfl)) ?_
        refine cq rfl rfl rfl (opQuo (mv rfl) (Ev.const _) (by decide)) ?_
        refine cq rfl rfl rfl (opAssign (mv rfl)) ?_
        refine rn ?_
        exact AtX.to (ih8 (y12, (U (v6.tdiv 2)), v10) h) [] (sl rfl) trivial rfl
      · refine CodeT.cond ((v6.tmod 2) == 1) (evBool (mv rfl)) (fun c13 => ?_) (fun c13 => ?_)
        · rw [if_pos c13] at h
          refine cr [0, 1, 2, 3] rfl ?_
          refine cq rfl rfl rfl (opMove (mv rfl)) ?_
          refine cq rfl rfl rfl (opMove (mv rfl)) ?_
          refine bindE h fun y14 ey14 h => ?_
          refine cq rfl rfl rfl (opCallQ (fnok59 H) (args := [(iv .u64 v7), (iv .u64 v5), (iv .u64 2305843009213690799)]) ⟨EvF.of (mv rfl) FEnt.refl, EvF.of (mv rfl) FEnt.refl, EvF.of (Ev.const _) FEnt.refl, trivial⟩ (ref03_Times_ok H φ v7 v5 2305843009213690799 _ ey14) flat_eqv) ?_
          refine cq rfl rfl rfl (opAssign (mv rfl)) ?_
          refine rn ?_
          exact AtX.to (hJ11 y14 h) [] (sl rfl) trivial rfl
        · rw [if_neg (bne_true c13)] at h
          refine CodeT.skip ?_
          exact AtX.to (hJ11 v7 h) [] (sl rfl) trivial rfl
    · rw [if_neg (bne_true c9)] at h
      refine CodeT.exit ?_
      refine AtX.then_exit ?_
      refine AtX.then_exit ?_
      refine AtX.in_hit ?_
      exact AtX.to (hJ4 v7 h) [] (sl rfl) trivial rfl
theorem ref03_Valid_ok {P : Program} (H : P = Try.prog) (φ : Nat) (v1 : Int) (r : (Bool)) (h : ref03_Valid φ v1 = some r) : PureT P 44 [(iv .u64 v1)] (fun x news => x = (bv r) ∧ news = []) := by
  unfold ref03_Valid at h
  refine PureT.of_code' 14 (fn44 H) rfl rfl (Nat.le_of_ble_eq_true rfl) fun w0 base r0 wI => ?_
  refine cl [0] [] rfl rfl rfl ?_
  refine cs (cr [0] rfl ?_)
  refine cq rfl rfl rfl (opAssign (Ev.const _)) ?_
  refine rn (al [0] [] rfl rfl rfl (sq (cs (cr [0, 1, 2, 3, 4, 5, 6, 7, 8, 9, 10, 11] rfl ?_))))
  refine cq rfl rfl rfl (opMove (mv rfl)) ?_
  refine cq rfl rfl rfl (opGeq (mv rfl) (Ev.const _)) ?_
  refine cq rfl rfl rfl (opMove (mv rfl)) ?_
  refine cg rfl rfl rfl rfl rfl (fun g2 => opMove (mv rfl)) ?_
  refine cg rfl rfl rfl rfl rfl (fun g3 => opLss (Ev.cnd (mv rfl) g3) (Ev.const _)) ?_
  refine cq rfl rfl rfl (opAnd (mv rfl) (fun g4 => (Ev.cnd (mv rfl) g4)) (Ev.const _)) ?_
  refine cq rfl rfl rfl (opMove (mv rfl)) ?_
  refine cg rfl rfl rfl rfl rfl (fun g5 => opMove (mv rfl)) ?_
  refine bindE h fun y7 ey7 h => ?_
  refine cg rfl rfl rfl rfl rfl (fun g6 => opCallQ (fnok54 H) (args := [(iv .u64 v1), (iv .u64 1152921504606845399)]) ⟨EvF.of (Ev.cnd (mv rfl) g6) FEnt.refl, EvF.of (Ev.const _) FEnt.refl, trivial⟩ (ref03_Pow_ok H φ v1 1152921504606845399 _ (gcall_pos ey7 g6)) flat_eqv) ?_
  refine cg rfl rfl rfl rfl rfl (fun g8 => opEql (Ev.cnd (mv rfl) g8) (Ev.const _)) ?_
  refine cq rfl rfl rfl (opAnd (mv rfl) (fun g9 => (Ev.cnd (mv rfl) g9)) (Ev.const _)) ?_
  refine cq rfl rfl rfl (opAssign (mv rfl)) ?_
  refine rn (al [2] [] rfl rfl rfl (sq ?_))
  refine CodeT.ret ?_
  refine AtX.ret' (bv ((decide (2 ≤ v1) && decide (v1 < 2305843009213690799)) && (y7 == 1))) (ResOK.one Try.results44 rfl) [] [] trivial rfl ?_
  obtain rfl := Option.some.inj h
  exact ⟨rfl, rfl⟩
theorem money_Worth_ok {P : Program} (H : P = Try.prog) (φ : Nat) (v1 : Int) (v2 : Int) (v3 : Int) (v4 : Int) (v5 : Int) (r : (Int × Int)) (h : money_Worth φ v1 v2 v3 v4 v5 = some r) : PureT P 34 [(iv .i64 v1), (iv .i64 v2), (iv .i64 v3), (iv .i64 v4), (iv .i64 v5)] (fun x news => x = tupv [(iv .i64 r.1), (iv .i64 r.2)] ∧ news = []) := by
  unfold money_Worth at h
  refine PureT.of_code' 90 (fn34 H) rfl rfl (Nat.le_of_ble_eq_true rfl) fun w0 base r0 wI => ?_
  refine cl [0, 1, 2, 3, 4] [] rfl rfl rfl ?_
  refine cs (cr [0, 1] rfl ?_)
  refine cq rfl rfl rfl (opAssign (Ev.const _)) ?_
  refine cq rfl rfl rfl (opAssign (Ev.const _)) ?_
  refine rn (al [0, 1, 2, 3, 4] [] rfl rfl rfl (sq (cs (cs (cr [0, 1, 2, 3, 4, 5, 6, 7, 8, 9, 10, 11, 12, 13, 14, 15, 16, 17, 18, 19, 20, 21, 22, 23, 24, 25, 26, 27, 28, 29, 30, 31, 32] rfl ?_)))))
  refine cq rfl rfl rfl (opMove (mv rfl)) ?_
  refine cq rfl rfl rfl (opLss (mv rfl) (Ev.const _)) ?_
  refine cq rfl rfl rfl (opMove (mv rfl)) ?_
  refine cg rfl rfl rfl rfl rfl (fun g6 => opMove (mv rfl)) ?_
  refine RunOps.cons_gnb (fun z => eqv z) (fun z => [row 3 eI64 1 [v1] z]) (decide (v1 < 0)) rfl rfl rfl rfl rfl (fun g7 => opBuildSlice (e := eI64) [v1] (sl41 H) lI64 rfl (by decide) ⟨rfl, (Ce.one (Ev.cnd (mv rfl) g7) (One.eqv rfl)), trivial⟩ fun z => ⟨z, rfl, rfl⟩) fun sv8 => ?_
  refine bindE h fun y10 ey10 h => ?_
  refine cg rfl rfl rfl rfl rfl (fun g9 => opCallQ (fnok47 H) (args := [(ro eI64 1 [v1])]) ⟨EvF.of (Ev.cnd (mv rfl) g9) (FEnt.row 0 lI64 (when_at rfl g9)), trivial⟩ (money_in_ok H φ [v1] _ (gcall_pos ey10 g9)) flat_eqv) ?_
  refine cg rfl rfl rfl rfl rfl (fun g11 => opNot (Ev.cnd (mv rfl) g11)) ?_
  refine cq rfl rfl rfl (opOr (mv rfl) (Ev.const _) (fun g12 => (Ev.cnd (mv rfl) g12))) ?_
  refine cq rfl rfl rfl (opMove (mv rfl)) ?_
  refine cg rfl rfl rfl rfl rfl (fun g13 => opMove (mv rfl)) ?_
  refine cg rfl rfl rfl rfl rfl (fun g14 => opMove (mv rfl)) ?_
  refine cg rfl rfl rfl rfl rfl (fun g15 => opMin (n := [v3]) (Ev.cnd (mv rfl) g15) ⟨(Ev.cnd (mv rfl) g15), trivial⟩) ?_
  refine cg rfl rfl rfl rfl rfl (fun g16 => opLss (Ev.cnd (mv rfl) g16) (Ev.const _)) ?_
  refine cq rfl rfl rfl (opOr (mv rfl) (Ev.const _) (fun g17 => (Ev.cnd (mv rfl) g17))) ?_
  refine cq rfl rfl rfl (opMove (mv rfl)) ?_
  refine cg rfl rfl rfl rfl rfl (fun g18 => opMove (mv rfl)) ?_
  refine cg rfl rfl rfl rfl rfl (fun g19 => opMove (mv rfl)) ?_
  refine cg rfl rfl rfl rfl rfl (fun g20 => opMove (mv rfl)) ?_
  refine cg rfl rfl rfl rfl rfl (fun g21 => opMax (n := [v3, v4]) (Ev.cnd (mv rfl) g21) ⟨(Ev.cnd (mv rfl) g21), (Ev.cnd (mv rfl) g21), trivial⟩) ?_
  refine cg rfl rfl rfl rfl rfl (fun g22 => opGtr (Ev.cnd (mv rfl) g22) (Ev.const _)) ?_
  refine cq rfl rfl rfl (opOr (mv rfl) (Ev.const _) (fun g23 => (Ev.cnd (mv rfl) g23))) ?_
  refine cq rfl rfl rfl (opMove (mv rfl)) ?_
  refine cg rfl rfl rfl rfl rfl (fun g24 => opMove (mv rfl)) ?_
  refine cg rfl rfl rfl rfl rfl (fun g25 => opLss (Ev.cnd (mv rfl) g25) (Ev.const _)) ?_
  refine cq rfl rfl rfl (opOr (mv rfl) (Ev.const _) (fun g26 => (Ev.cnd (mv rfl) g26))) ?_
  refine cq rfl rfl rfl (opMove (mv rfl)) ?_
  refine cg rfl rfl rfl rfl rfl (fun g27 => opMove (mv rfl)) ?_
  refine cg rfl rfl rfl rfl rfl (fun g28 => opLss (Ev.cnd (mv rfl) g28) (Ev.const _)) ?_
  refine cq rfl rfl rfl (opOr (mv rfl) (Ev.const _) (fun g29 => (Ev.cnd (mv rfl) g29))) ?_
  refine cq rfl rfl rfl (opMove (mv rfl)) ?_
  refine cg rfl rfl rfl rfl rfl (fun g30 => opMove (mv rfl)) ?_
  refine cg rfl rfl rfl rfl rfl (fun g31 => opGtr (Ev.cnd (mv rfl) g31) (Ev.const _)) ?_
  refine cq rfl rfl rfl (opOr (mv rfl) (Ev.const _) (fun g32 => (Ev.cnd (mv rfl) g32))) ?_
  refine rn (al [0, 1, 2, 3, 4, 50] [] rfl rfl rfl (sq ?_))
  refine CodeT.cond ((((((decide (v1 < 0) || (!y10)) || decide ((min2 v2 v3) < 0)) || decide (1073741824 < (max2 (max2 v2 v3) v4))) || decide (v4 < 1)) || decide (v5 < 0)) || decide (100 < v5)) (evBool (mv rfl)) (fun c33 => ?_) (fun c33 => ?_)
  · rw [if_pos c33] at h
    refine cs (cr [0, 1] rfl ?_)
    refine cq rfl rfl rfl (opAssign (Ev.const _)) ?_
    refine cq rfl rfl rfl (opAssign (Ev.const _)) ?_
    refine rn (al [10, 11] [] rfl rfl rfl (sq ?_))
    refine CodeT.ret ?_
    refine AtX.then_ret ?_
    refine AtX.ret' (tupv [(iv .i64 0), (iv .i64 1)]) (ResOK.two Try.results34 rfl rfl) [] [] trivial rfl ?_
    obtain rfl := Option.some.inj h
    exact ⟨rfl, rfl⟩
  · rw [if_neg (bne_true c33)] at h
    refine CodeT.skip ?_
    refine al [0, 1, 2, 3, 4] [] rfl rfl rfl ?_
    refine sq (cs (cr [0, 1, 2, 3, 4, 5] rfl ?_))
    refine cq rfl rfl rfl (opMove (mv rfl)) ?_
    refine cq rfl rfl rfl (opMove (mv rfl)) ?_
    refine cq rfl rfl rfl (opMul (mv rfl) (mv rfl)) ?_
    refine cq rfl rfl rfl (opAdd (mv rfl) (Ev.const _)) ?_
    refine cq rfl rfl rfl (opQuo (mv rfl) (Ev.const _) (by decide)) ?_
    refine cq rfl rfl rfl (opAssign (mv rfl)) ?_
    refine rn (al [0, 1, 2, 3, 12] [] rfl rfl rfl (sq (cs (cr [0, 1, 2, 3] rfl ?_))))
    refine cq rfl rfl rfl (opMove (mv rfl)) ?_
    refine cq rfl rfl rfl (opMove (mv rfl)) ?_
    refine cq rfl rfl rfl (opSub (mv rfl) (mv rfl)) ?_
    refine cq rfl rfl rfl (opAssign (mv rfl)) ?_
    refine rn (al [0, 3, 12, 13] [] rfl rfl rfl (sq ?_))
    refine CodeT.block ?_
    refine cs (cr [0, 1, 2] rfl ?_)
    refine cq rfl rfl rfl (opMove (mv rfl)) ?_
    refine cq rfl rfl rfl (opLeq (mv rfl) (Ev.const _)) ?_
    refine cq rfl rfl rfl (opAssign (mv rfl)) ?_
    refine rn (al [0, 3, 12, 13, 81] [] rfl rfl rfl (sq ?_))
    refine CodeT.cond (decide ((W (v3 - v2)) ≤ 0)) (evBool (mv rfl)) (fun c34 => ?_) (fun c34 => ?_)
    · rw [if_pos c34] at h
      refine cs (cr [0, 1, 2] rfl ?_)
      refine cq rfl rfl rfl (opMove (mv rfl)) ?_
      refine cq rfl rfl rfl (opAssign (mv rfl)) ?_
      refine cq rfl rfl rfl (opAssign (Ev.const _)) ?_
      refine rn (al [10, 11] [] rfl rfl rfl (sq ?_))
      refine CodeT.ret ?_
      refine AtX.in_ret ?_
      refine AtX.ret' (tupv [(iv .i64 v1), (iv .i64 0)]) (ResOK.two Try.results34 rfl rfl) [] [] trivial rfl ?_
      obtain rfl := Option.some.inj h
      exact ⟨rfl, rfl⟩
    · rw [if_neg (bne_true c34)] at h
      refine cs (cr [0, 1, 2, 3] rfl ?_)
      refine cq rfl rfl rfl (opMove (mv rfl)) ?_
      refine cq rfl rfl rfl (opMove (mv rfl)) ?_
      refine cq rfl rfl rfl (opGeq (mv rfl) (mv rfl)) ?_
      refine cq rfl rfl rfl (opAssign (mv rfl)) ?_
      refine rn (al [0, 3, 12, 13, 85] [] rfl rfl rfl (sq ?_))
      refine CodeT.cond (decide (v4 ≤ (W (v3 - v2)))) (evBool (mv rfl)) (fun c35 => ?_) (fun c35 => ?_)
      · rw [if_pos c35] at h
        refine cs (cr [0, 1, 2] rfl ?_)
        refine cq rfl rfl rfl (opMove (mv rfl)) ?_
        refine cq rfl rfl rfl (opAssign (mv rfl)) ?_
        refine cq rfl rfl rfl (opAssign (Ev.const _)) ?_
        refine rn (al [10, 11] [] rfl rfl rfl (sq ?_))
        refine CodeT.ret ?_
        refine AtX.in_ret ?_
        refine AtX.ret' (tupv [(iv .i64 (W ((W ((W (v1 * v5)) + 99)).tdiv 100))), (iv .i64 0)]) (ResOK.two Try.results34 rfl rfl) [] [] trivial rfl ?_
        obtain rfl := Option.some.inj h
        exact ⟨rfl, rfl⟩
      · rw [if_neg (bne_true c35)] at h
        refine cs (cr [0, 1, 2, 3, 4, 5, 6, 7, 8, 9] rfl ?_)
        refine cq rfl rfl rfl (opMove (mv rfl)) ?_
        refine cq rfl rfl rfl (opConv (us3 H) (un48 H) (mv rfl)) ?_
        refine cq rfl rfl rfl (opMove (mv rfl)) ?_
        refine cq rfl rfl rfl (opConv (us3 H) (un48 H) (mv rfl)) ?_
        refine bindE h fun y36 ey36 h => ?_
        refine cq rfl rfl rfl (opCallQ (fnok48 H) (args := [(iv .u64 (U (v1))), (iv .u64 (U ((W (v3 - v2)))))]) ⟨EvF.of (mv rfl) FEnt.refl, EvF.of (mv rfl) FEnt.refl, trivial⟩ (bits_Mul64_ok H φ (U (v1)) (U ((W (v3 - v2)))) _ ey36) (flat_tup' ⟨flat_eqv, flat_eqv, trivial⟩)) ?_
        refine cq rfl rfl rfl (opMove (mv rfl)) ?_
        refine cq rfl rfl rfl (opExtract (mv rfl) rfl) ?_
        refine cq rfl rfl rfl (opExtract (mv rfl) rfl) ?_
        refine cq rfl rfl rfl (opAssign (mv rfl)) ?_
        refine cq rfl rfl rfl (opAssign (mv rfl)) ?_
        refine rn (al [0, 3, 12, 14, 15] [] rfl rfl rfl (sq (cs (cr [0, 1, 2, 3, 4, 5, 6, 7, 8, 9] rfl ?_))))
        refine cq rfl rfl rfl (opMove (mv rfl)) ?_
        refine cq rfl rfl rfl (opMove (mv rfl)) ?_
        refine cq rfl rfl rfl (opMove (mv rfl)) ?_
        refine cq rfl rfl rfl (opConv (us3 H) (un48 H) (mv rfl)) ?_
        refine bindE h fun y37 ey37 h => ?_
        refine cq rfl rfl rfl (opCallQ (fnok49 H) (args := [(iv .u64 y36.1), (iv .u64 y36.2), (iv .u64 (U (v4)))]) ⟨EvF.of (mv rfl) FEnt.refl, EvF.of (mv rfl) FEnt.refl, EvF.of (mv rfl) FEnt.refl, trivial⟩ (bits_Div64_ok H φ y36.1 y36.2 (U (v4)) _ ey37) (flat_tup' ⟨flat_eqv, flat_eqv, trivial⟩)) ?_
        refine cq rfl rfl rfl (opMove (mv rfl)) ?_
        refine cq rfl rfl rfl (opExtract (mv rfl) rfl) ?_
        refine cq rfl rfl rfl (opExtract (mv rfl) rfl) ?_
        refine cq rfl rfl rfl (opAssign (mv rfl)) ?_
        refine cq rfl rfl rfl (opAssign (mv rfl)) ?_
        refine rn (al [0, 12, 16] [] rfl rfl rfl (sq (cs (cr [0, 1, 2, 3, 4, 5, 6, 7] rfl ?_))))
        refine cq rfl rfl rfl (opMove (mv rfl)) ?_
        refine cq rfl rfl rfl (opMove (mv rfl)) ?_
        refine cq rfl rfl rfl (opMove (mv rfl)) ?_
        refine cq rfl rfl rfl (opConv (us48 H) (un3 H) (mv rfl)) ?_
        refine cq rfl rfl rfl (opSub (mv rfl) (mv rfl)) ?_
        refine cq rfl rfl rfl (opMax (n := [(W (v1 - (W (y37.1))))]) (mv rfl) ⟨(mv rfl), trivial⟩) ?_
        refine cq rfl rfl rfl (opAssign (mv rfl)) ?_
        refine cq rfl rfl rfl (opAssign (Ev.const _)) ?_
        refine rn (al [10, 11] [] rfl rfl rfl (sq ?_))
        refine CodeT.ret ?_
        refine AtX.in_ret ?_
        refine AtX.ret' (tupv [(iv .i64 (max2 (W ((W ((W (v1 * v5)) + 99)).tdiv 100)) (W (v1 - (W (y37.1)))))), (iv .i64 0)]) (ResOK.two Try.results34 rfl rfl) [] [] trivial rfl ?_
        obtain rfl := Option.some.inj h
        exact ⟨rfl, rfl⟩
theorem ref07_Worth_ok {P : Program} (H : P = Try.prog) (φ : Nat) (v1 : Int) (v2 : Int) (v3 : Int) (v4 : Int) (v5 : Int) (r : (Int × Int)) (h : ref07_Worth φ v1 v2 v3 v4 v5 = some r) : PureT P 35 [(iv .i64 v1), (iv .i64 v2), (iv .i64 v3), (iv .i64 v4), (iv .i64 v5)] (fun x news => x = tupv [(iv .i64 r.1), (iv .i64 r.2)] ∧ news = []) := by
  unfold ref07_Worth at h
  refine PureT.of_code' 80 (fn35 H) rfl rfl (Nat.le_of_ble_eq_true rfl) fun w0 base r0 wI => ?_
  refine cl [0, 1, 2, 3, 4] [] rfl rfl rfl ?_
  refine cs (cr [0, 1] rfl ?_)
  refine cq rfl rfl rfl (opAssign (Ev.const _)) ?_
  refine cq rfl rfl rfl (opAssign (Ev.const _)) ?_
  refine rn (al [0, 1, 2, 3, 4] [] rfl rfl rfl (sq (cs (cs (cr [0, 1, 2, 3, 4, 5, 6, 7, 8, 9, 10, 11, 12, 13, 14, 15, 16, 17, 18, 19, 20, 21, 22, 23, 24, 25, 26, 27, 28, 29, 30, 31, 32, 33, 34, 35, 36, 37] rfl ?_)))))
  refine cq rfl rfl rfl (opMove (mv rfl)) ?_
  refine cq rfl rfl rfl (opLss (mv rfl) (Ev.const _)) ?_
  refine cq rfl rfl rfl (opMove (mv rfl)) ?_
  refine cg rfl rfl rfl rfl rfl (fun g6 => opMove (mv rfl)) ?_
  refine cg rfl rfl rfl rfl rfl (fun g7 => opGtr (Ev.cnd (mv rfl) g7) (Ev.const _)) ?_
  refine cq rfl rfl rfl (opOr (mv rfl) (Ev.const _) (fun g8 => (Ev.cnd (mv rfl) g8))) ?_
  refine cq rfl rfl rfl (opMove (mv rfl)) ?_
  refine cg rfl rfl rfl rfl rfl (fun g9 => opMove (mv rfl)) ?_
  refine cg rfl rfl rfl rfl rfl (fun g10 => opLss (Ev.cnd (mv rfl) g10) (Ev.const _)) ?_
  refine cq rfl rfl rfl (opOr (mv rfl) (Ev.const _) (fun g11 => (Ev.cnd (mv rfl) g11))) ?_
  refine cq rfl rfl rfl (opMove (mv rfl)) ?_
  refine cg rfl rfl rfl rfl rfl (fun g12 => opMove (mv rfl)) ?_
  refine cg rfl rfl rfl rfl rfl (fun g13 => opGtr (Ev.cnd (mv rfl) g13) (Ev.const _)) ?_
  refine cq rfl rfl rfl (opOr (mv rfl) (Ev.const _) (fun g14 => (Ev.cnd (mv rfl) g14))) ?_
  refine cq rfl rfl rfl (opMove (mv rfl)) ?_
  refine cg rfl rfl rfl rfl rfl (fun g15 => opMove (mv rfl)) ?_
  refine cg rfl rfl rfl rfl rfl (fun g16 => opLss (Ev.cnd (mv rfl) g16) (Ev.const _)) ?_
  refine cq rfl rfl rfl (opOr (mv rfl) (Ev.const _) (fun g17 => (Ev.cnd (mv rfl) g17))) ?_
  refine cq rfl rfl rfl (opMove (mv rfl)) ?_
  refine cg rfl rfl rfl rfl rfl (fun g18 => opMove (mv rfl)) ?_
  refine cg rfl rfl rfl rfl rfl (fun g19 => opGtr (Ev.cnd (mv rfl) g19) (Ev.const _)) ?_
  refine cq rfl rfl rfl (opOr (mv rfl) (Ev.const _) (fun g20 => (Ev.cnd (mv rfl) g20))) ?_
  refine cq rfl rfl rfl (opMove (mv rfl)) ?_
  refine cg rfl rfl rfl rfl rfl (fun g21 => opMove (mv rfl)) ?_
  refine cg rfl rfl rfl rfl rfl (fun g22 => opLss (Ev.cnd (mv rfl) g22) (Ev.const _)) ?_
  refine cq rfl rfl rfl (opOr (mv rfl) (Ev.const _) (fun g23 => (Ev.cnd (mv rfl) g23))) ?_
  refine cq rfl rfl rfl (opMove (mv rfl)) ?_
  refine cg rfl rfl rfl rfl rfl (fun g24 => opMove (mv rfl)) ?_
  refine cg rfl rfl rfl rfl rfl (fun g25 => opGtr (Ev.cnd (mv rfl) g25) (Ev.const _)) ?_
  refine cq rfl rfl rfl (opOr (mv rfl) (Ev.const _) (fun g26 => (Ev.cnd (mv rfl) g26))) ?_
  refine cq rfl rfl rfl (opMove (mv rfl)) ?_
  refine cg rfl rfl rfl rfl rfl (fun g27 => opMove (mv rfl)) ?_
  refine cg rfl rfl rfl rfl rfl (fun g28 => opLss (Ev.cnd (mv rfl) g28) (Ev.const _)) ?_
  refine cq rfl rfl rfl (opOr (mv rfl) (Ev.const _) (fun g29 => (Ev.cnd (mv rfl) g29))) ?_
  refine cq rfl rfl rfl (opMove (mv rfl)) ?_
  refine cg rfl rfl rfl rfl rfl (fun g30 => opMove (mv rfl)) ?_
  refine cg rfl rfl rfl rfl rfl (fun g31 => opGtr (Ev.cnd (mv rfl) g31) (Ev.const _)) ?_
  refine cq rfl rfl rfl (opOr (mv rfl) (Ev.const _) (fun g32 => (Ev.cnd (mv rfl) g32))) ?_
  refine rn (al [0, 1, 2, 3, 4, 51] [] rfl rfl rfl (sq ?_))
  refine CodeT.cond (((((((((decide (v1 < 0) || decide (9007199254740992 < v1)) || decide (v2 < 0)) || decide (1073741824 < v2)) || decide (v3 < 0)) || decide (1073741824 < v3)) || decide (v4 < 1)) || decide (1073741824 < v4)) || decide (v5 < 0)) || decide (100 < v5)) (evBool (mv rfl)) (fun c33 => ?_) (fun c33 => ?_)
  · rw [if_pos c33] at h
    refine cs (cr [0, 1] rfl ?_)
    refine cq rfl rfl rfl (opAssign (Ev.const _)) ?_
    refine cq rfl rfl rfl (opAssign (Ev.const _)) ?_
    refine rn (al [10, 11] [] rfl rfl rfl (sq ?_))
    refine CodeT.ret ?_
    refine AtX.then_ret ?_
    refine AtX.ret' (tupv [(iv .i64 0), (iv .i64 1)]) (ResOK.two Try.results35 rfl rfl) [] [] trivial rfl ?_
    obtain rfl := Option.some.inj h
    exact ⟨rfl, rfl⟩
  · rw [if_neg (bne_true c33)] at h
    refine CodeT.skip ?_
    refine al [0, 1, 2, 3, 4] [] rfl rfl rfl ?_
    refine sq (cs (cs (cr [0, 1, 2] rfl ?_)))
    refine cq rfl rfl rfl (opMove (mv rfl)) ?_
    refine cq rfl rfl rfl (opMove (mv rfl)) ?_
    refine cq rfl rfl rfl (opLeq (mv rfl) (mv rfl)) ?_
    refine rn (al [0, 1, 2, 3, 4, 54] [] rfl rfl rfl (sq ?_))
    refine CodeT.cond (decide (v3 ≤ v2)) (evBool (mv rfl)) (fun c34 => ?_) (fun c34 => ?_)
    · rw [if_pos c34] at h
      refine cs (cr [0, 1, 2] rfl ?_)
      refine cq rfl rfl rfl (opMove (mv rfl)) ?_
      refine cq rfl rfl rfl (opAssign (mv rfl)) ?_
      refine cq rfl rfl rfl (opAssign (Ev.const _)) ?_
      refine rn (al [10, 11] [] rfl rfl rfl (sq ?_))
      refine CodeT.ret ?_
      refine AtX.then_ret ?_
      refine AtX.ret' (tupv [(iv .i64 v1), (iv .i64 0)]) (ResOK.two Try.results35 rfl rfl) [] [] trivial rfl ?_
      obtain rfl := Option.some.inj h
      exact ⟨rfl, rfl⟩
    · rw [if_neg (bne_true c34)] at h
      refine CodeT.skip ?_
      refine al [0, 1, 2, 3, 4] [] rfl rfl rfl ?_
      refine sq (cs (cs (cr [0, 1, 2, 3, 4] rfl ?_)))
      refine cq rfl rfl rfl (opMove (mv rfl)) ?_
      refine cq rfl rfl rfl (opMove (mv rfl)) ?_
      refine cq rfl rfl rfl (opSub (mv rfl) (mv rfl)) ?_
      refine cq rfl rfl rfl (opMove (mv rfl)) ?_
      refine cq rfl rfl rfl (opGeq (mv rfl) (mv rfl)) ?_
      refine rn (al [0, 1, 2, 3, 4, 60] [] rfl rfl rfl (sq ?_))
      refine CodeT.cond (decide (v4 ≤ (W (v3 - v2)))) (evBool (mv rfl)) (fun c35 => ?_) (fun c35 => ?_)
      · rw [if_pos c35] at h
        refine cs (cr [0, 1, 2, 3, 4] rfl ?_)
        refine cq rfl rfl rfl (opMove (mv rfl)) ?_
        refine cq rfl rfl rfl (opMove (mv rfl)) ?_
        refine bindE h fun y36 ey36 h => ?_
        refine cq rfl rfl rfl (opCallQ (fnok50 H) (args := [(iv .i64 v1), (iv .i64 v5)]) ⟨EvF.of (mv rfl) FEnt.refl, EvF.of (mv rfl) FEnt.refl, trivial⟩ (ref07_Least_ok H φ v1 v5 _ ey36) flat_eqv) ?_
        refine cq rfl rfl rfl (opAssign (mv rfl)) ?_
        refine cq rfl rfl rfl (opAssign (Ev.const _)) ?_
        refine rn (al [10, 11] [] rfl rfl rfl (sq ?_))
        refine CodeT.ret ?_
        refine AtX.then_ret ?_
        refine AtX.ret' (tupv [(iv .i64 y36), (iv .i64 0)]) (ResOK.two Try.results35 rfl rfl) [] [] trivial rfl ?_
        obtain rfl := Option.some.inj h
        exact ⟨rfl, rfl⟩
      · rw [if_neg (bne_true c35)] at h
        refine CodeT.skip ?_
        refine al [0, 1, 2, 3, 4] [] rfl rfl rfl ?_
        refine sq (cs (cr [0, 1, 2, 3, 4, 5, 6, 7, 8, 9, 10] rfl ?_))
        refine cq rfl rfl rfl (opMove (mv rfl)) ?_
        refine cq rfl rfl rfl (opMove (mv rfl)) ?_
        refine cq rfl rfl rfl (opMove (mv rfl)) ?_
        refine cq rfl rfl rfl (opSub (mv rfl) (mv rfl)) ?_
        refine cq rfl rfl rfl (opMove (mv rfl)) ?_
        refine bindE h fun y37 ey37 h => ?_
        refine cq rfl rfl rfl (opCallQ (fnok51 H) (args := [(iv .i64 v1), (iv .i64 (W (v3 - v2))), (iv .i64 v4)]) ⟨EvF.of (mv rfl) FEnt.refl, EvF.of (mv rfl) FEnt.refl, EvF.of (mv rfl) FEnt.refl, trivial⟩ (ref07_MulDiv_ok H φ v1 (W (v3 - v2)) v4 _ ey37) (flat_tup' ⟨flat_eqv, flat_eqv, trivial⟩)) ?_
        refine cq rfl rfl rfl (opMove (mv rfl)) ?_
        refine cq rfl rfl rfl (opExtract (mv rfl) rfl) ?_
        refine cq rfl rfl rfl (opExtract (mv rfl) rfl) ?_
        refine cq rfl rfl rfl (opAssign (mv rfl)) ?_
        refine cq rfl rfl rfl (opAssign (mv rfl)) ?_
        refine rn (al [0, 4, 12] [] rfl rfl rfl (sq (cs (cr [0, 1, 2, 3, 4, 5, 6, 7, 8] rfl ?_))))
        refine cq rfl rfl rfl (opMove (mv rfl)) ?_
        refine cq rfl rfl rfl (opMove (mv rfl)) ?_
        refine bindE h fun y38 ey38 h => ?_
        refine cq rfl rfl rfl (opCallQ (fnok50 H) (args := [(iv .i64 v1), (iv .i64 v5)]) ⟨EvF.of (mv rfl) FEnt.refl, EvF.of (mv rfl) FEnt.refl, trivial⟩ (ref07_Least_ok H φ v1 v5 _ ey38) flat_eqv) ?_
        refine cq rfl rfl rfl (opMove (mv rfl)) ?_
        refine cq rfl rfl rfl (opMove (mv rfl)) ?_
        refine cq rfl rfl rfl (opSub (mv rfl) (mv rfl)) ?_
        refine cq rfl rfl rfl (opMax (n := [(W (v1 - y37.1))]) (mv rfl) ⟨(mv rfl), trivial⟩) ?_
        refine cq rfl rfl rfl (opAssign (mv rfl)) ?_
        refine cq rfl rfl rfl (opAssign (Ev.const _)) ?_
        refine rn (al [10, 11] [] rfl rfl rfl (sq ?_))
        refine CodeT.ret ?_
        refine AtX.ret' (tupv [(iv .i64 (max2 y38 (W (v1 - y37.1)))), (iv .i64 0)]) (ResOK.two Try.results35 rfl rfl) [] [] trivial rfl ?_
        obtain rfl := Option.some.inj h
        exact ⟨rfl, rfl⟩
theorem fleet_Check_ok {P : Program} (H : P = Try.prog) (φ : Nat) (v1 : Fleet) (r : (Int)) (h : fleet_Check φ v1 = some r) : PureT P 18 [(agg (eFleet v1))] (fun x news => x = (iv .i64 r) ∧ news = []) := by
  unfold fleet_Check at h
  refine PureT.of_code' 206 (fn18 H) rfl rfl (Nat.le_of_ble_eq_true rfl) fun w0 base r0 wI => ?_
  refine cl [0] [] rfl rfl rfl ?_
  refine cs (cr [0, 1] rfl ?_)
  refine RunOps.cons rfl rfl rfl (opBox (cs := (eFleet v1)) (Ce.agg (mv rfl)) fun b2 => ?_)
  refine cq rfl rfl rfl (opAssign (Ev.const _)) ?_
  refine rn (al [1] [0] rfl rfl rfl (sq (cs (cs (cr [0, 1, 2, 3, 4, 5, 6, 7, 8, 9, 10, 11, 12, 13, 14, 15, 16, 17, 18, 19, 20, 21] rfl ?_)))))
  refine cq rfl rfl rfl (opFieldP (fo27_0 H) (mv rfl)) ?_
  refine cq rfl rfl rfl (opLoad1 (tl22 H) ((Pt.box 0 (mv rfl) rfl rfl).take 1 (cs' := [(ro eWagonType 8 v1.fTypes)]) rfl)) ?_
  refine cq rfl rfl rfl (opLenR (il22 H) (mv rfl)) ?_
  refine cq rfl rfl rfl (opGtr (mv rfl) (Ev.const _)) ?_
  refine cq rfl rfl rfl (opMove (mv rfl)) ?_
  refine cg rfl rfl rfl rfl rfl (fun g3 => opFieldP (fo27_1 H) (mv rfl)) ?_
  refine cg rfl rfl rfl rfl rfl (fun g4 => opLoad1 (tl23 H) ((Pt.box 0 (Ev.cnd (mv rfl) g4) rfl rfl).take 1 (cs' := [(ro eWagon 5 v1.fWagons)]) rfl)) ?_
  refine cg rfl rfl rfl rfl rfl (fun g5 => opLenR (il23 H) (Ev.cnd (mv rfl) g5)) ?_
  refine cg rfl rfl rfl rfl rfl (fun g6 => opGtr (Ev.cnd (mv rfl) g6) (Ev.const _)) ?_
  refine cq rfl rfl rfl (opOr (mv rfl) (Ev.const _) (fun g7 => (Ev.cnd (mv rfl) g7))) ?_
  refine cq rfl rfl rfl (opMove (mv rfl)) ?_
  refine cg rfl rfl rfl rfl rfl (fun g8 => opFieldP (fo27_2 H) (mv rfl)) ?_
  refine cg rfl rfl rfl rfl rfl (fun g9 => opLoad1 (tl24 H) ((Pt.box 0 (Ev.cnd (mv rfl) g9) rfl rfl).take 1 (cs' := [(ro eSwap 3 v1.fSwaps)]) rfl)) ?_
  refine cg rfl rfl rfl rfl rfl (fun g10 => opLenR (il24 H) (Ev.cnd (mv rfl) g10)) ?_
  refine cg rfl rfl rfl rfl rfl (fun g11 => opGtr (Ev.cnd (mv rfl) g11) (Ev.const _)) ?_
  refine cq rfl rfl rfl (opOr (mv rfl) (Ev.const _) (fun g12 => (Ev.cnd (mv rfl) g12))) ?_
  refine cq rfl rfl rfl (opMove (mv rfl)) ?_
  refine cg rfl rfl rfl rfl rfl (fun g13 => opFieldP (fo27_3 H) (mv rfl)) ?_
  refine cg rfl rfl rfl rfl rfl (fun g14 => opLoad1 (tl25 H) ((Pt.box 0 (Ev.cnd (mv rfl) g14) rfl rfl).take 1 (cs' := [(ro eWash 3 v1.fWashes)]) rfl)) ?_
  refine cg rfl rfl rfl rfl rfl (fun g15 => opLenR (il25 H) (Ev.cnd (mv rfl) g15)) ?_
  refine cg rfl rfl rfl rfl rfl (fun g16 => opGtr (Ev.cnd (mv rfl) g16) (Ev.const _)) ?_
  refine cq rfl rfl rfl (opOr (mv rfl) (Ev.const _) (fun g17 => (Ev.cnd (mv rfl) g17))) ?_
  refine rn (al [1, 38] [0] rfl rfl rfl (sq ?_))
  refine CodeT.cond (((decide (32 < (v1.fTypes.length : Int)) || decide (4096 < (v1.fWagons.length : Int))) || decide (1024 < (v1.fSwaps.length : Int))) || decide (4096 < (v1.fWashes.length : Int))) (evBool (mv rfl)) (fun c18 => ?_) (fun c18 => ?_)
  · rw [if_pos c18] at h
    refine cs (cr [0] rfl ?_)
    refine cq rfl rfl rfl (opAssign (Ev.const _)) ?_
    refine rn (al [2] [] rfl rfl rfl (sq ?_))
    refine CodeT.ret ?_
    refine AtX.then_ret ?_
    refine AtX.ret' (iv .i64 2) (ResOK.one Try.results18 rfl) [] [] trivial rfl ?_
    obtain rfl := Option.some.inj h
    exact ⟨rfl, rfl⟩
  · rw [if_neg (bne_true c18)] at h
    refine CodeT.skip ?_
    refine al [1] [0] rfl rfl rfl ?_
    refine sq (cs (cr [0, 1] rfl ?_))
    refine RunOps.cons rfl rfl rfl (opAlloc [.int .i64 0] (ze32 H) rfl fun b19 => ?_)
    refine RunOps.cons rfl rfl rfl (opStore 1 (cells := [(iv .i64 0)]) (cs := [(iv .i64 0)]) (out := [(iv .i64 0)]) (tl32 H) (mv rfl) (Ce.one (Ev.const _) (One.eqv rfl)) rfl rfl (Nat.le_of_ble_eq_true rfl) rfl ?_)
    refine rn (al [1, 3] [0, 1] rfl rfl rfl (sq (cs (cr [0, 1] rfl ?_))))
    refine cq rfl rfl rfl (opMakeFunc (vs := #[(.pointer (some ⟨b19, 0, none⟩))]) (fun a r w hs => capN ⟨Ev.val (mv rfl) a r w hs, trivial⟩)) ?_
    refine cq rfl rfl rfl (opAssign (mv rfl)) ?_
    refine rn (al [1, 3, 4] [0, 1] rfl rfl rfl (sq (cs (cs (cr [0, 1, 2, 3] rfl ?_)))))
    refine cq rfl rfl rfl (opFieldP (fo27_0 H) (mv rfl)) ?_
    refine cq rfl rfl rfl (opLoad1 (tl22 H) ((Pt.box 0 (mv rfl) rfl rfl).take 1 (cs' := [(ro eWagonType 8 v1.fTypes)]) rfl)) ?_
    refine cq rfl rfl rfl (opLenR (il22 H) (mv rfl)) ?_
    refine cq rfl rfl rfl (opMove (Ev.const _)) ?_
    refine rn (al [1, 3, 4, 41, 42, 43] [0, 1] rfl rfl rfl (sq ?_))
    refine CodeT.join (fun z : Int => (fleet_Check_j21 φ v1) z) r (fun z => ⟨Slots.of [(1, (eqv (.pointer (some ⟨b2, 0, none⟩)))), (3, (eqv (.pointer (some ⟨b19, 0, none⟩)))), (4, (eqv (.func (.func 36) #[] #[(.pointer (some ⟨b19, 0, none⟩))])))], [(box b2 27 (eFleet v1)), (box b19 32 [(iv .i64 z)])]⟩) (fun v20 h => ?_) (fun hJ21 => ?_)
    · replace h : (fleet_Check_j21 φ v1) v20 = some r := h
      unfold fleet_Check_j21 at h
      refine al [1, 3, 4] [0, 1] rfl rfl rfl ?_
      refine sq (cs (cs (cr [0, 1, 2, 3] rfl ?_)))
      refine cq rfl rfl rfl (opFieldP (fo27_1 H) (mv rfl)) ?_
      refine cq rfl rfl rfl (opLoad1 (tl23 H) ((Pt.box 0 (mv rfl) rfl rfl).take 1 (cs' := [(ro eWagon 5 v1.fWagons)]) rfl)) ?_
      refine cq rfl rfl rfl (opLenR (il23 H) (mv rfl)) ?_
      refine cq rfl rfl rfl (opMove (Ev.const _)) ?_
      refine rn (al [1, 3, 4, 83, 84, 85] [0, 1] rfl rfl rfl (sq ?_))
      refine CodeT.join (fun z : Int => (fleet_Check_j23 φ v1) z) r (fun z => ⟨Slots.of [(1, (eqv (.pointer (some ⟨b2, 0, none⟩)))), (3, (eqv (.pointer (some ⟨b19, 0, none⟩)))), (4, (eqv (.func (.func 36) #[] #[(.pointer (some ⟨b19, 0, none⟩))])))], [(box b2 27 (eFleet v1)), (box b19 32 [(iv .i64 z)])]⟩) (fun v22 h => ?_) (fun hJ23 => ?_)
      · replace h : (fleet_Check_j23 φ v1) v22 = some r := h
        unfold fleet_Check_j23 at h
        refine al [1, 3, 4] [0, 1] rfl rfl rfl ?_
        refine sq (cs (cs (cr [0, 1, 2, 3] rfl ?_)))
        refine cq rfl rfl rfl (opFieldP (fo27_2 H) (mv rfl)) ?_
        refine cq rfl rfl rfl (opLoad1 (tl24 H) ((Pt.box 0 (mv rfl) rfl rfl).take 1 (cs' := [(ro eSwap 3 v1.fSwaps)]) rfl)) ?_
        refine cq rfl rfl rfl (opLenR (il24 H) (mv rfl)) ?_
        refine cq rfl rfl rfl (opMove (Ev.const _)) ?_
        refine rn (al [1, 3, 4, 120, 121, 122] [0, 1] rfl rfl rfl (sq ?_))
        refine CodeT.join (fun z : Int => (fleet_Check_j25 φ v1) z) r (fun z => ⟨Slots.of [(1, (eqv (.pointer (some ⟨b2, 0, none⟩)))), (3, (eqv (.pointer (some ⟨b19, 0, none⟩)))), (4, (eqv (.func (.func 36) #[] #[(.pointer (some ⟨b19, 0, none⟩))])))], [(box b2 27 (eFleet v1)), (box b19 32 [(iv .i64 z)])]⟩) (fun v24 h => ?_) (fun hJ25 => ?_)
        · replace h : (fleet_Check_j25 φ v1) v24 = some r := h
          unfold fleet_Check_j25 at h
          refine al [1, 3, 4] [0, 1] rfl rfl rfl ?_
          refine sq (cs (cr [0] rfl ?_))
          refine RunOps.cons rfl rfl rfl (opAllocA (e := eB) false [.bool false] (za93 H) rfl rfl fun b26 => ?_)
          refine rn (al [1, 3, 4, 13] [0, 1, 2] rfl rfl rfl (sq (cs (cs (cr [0, 1, 2, 3] rfl ?_)))))
          refine cq rfl rfl rfl (opFieldP (fo27_3 H) (mv rfl)) ?_
          refine cq rfl rfl rfl (opLoad1 (tl25 H) ((Pt.box 0 (mv rfl) rfl rfl).take 1 (cs' := [(ro eWash 3 v1.fWashes)]) rfl)) ?_
          refine cq rfl rfl rfl (opLenR (il25 H) (mv rfl)) ?_
          refine cq rfl rfl rfl (opMove (Ev.const _)) ?_
          refine rn (al [3, 4, 13, 158, 159, 160] [1, 2] rfl rfl rfl (sq ?_))
          refine CodeT.join (fun z : Int => (fleet_Check_j28 φ) z) r (fun z => ⟨Slots.of [(3, (eqv (.pointer (some ⟨b19, 0, none⟩))))], [(box b19 32 [(iv .i64 z)])]⟩) (fun v27 h => ?_) (fun hJ28 => ?_)
          · replace h : (fleet_Check_j28 φ) v27 = some r := h
            unfold fleet_Check_j28 at h
            refine al [3] [0] rfl rfl rfl ?_
            refine sq (cs (cr [0, 1] rfl ?_))
            refine cq rfl rfl rfl (opLoad1 (tl32 H) ((Pt.box 0 (mv rfl) rfl rfl).take 1 (cs' := [(iv .i64 v27)]) rfl)) ?_
            refine cq rfl rfl rfl (opAssign (mv rfl)) ?_
            refine rn (al [2] [] rfl rfl rfl (sq ?_))
            refine CodeT.ret ?_
            refine AtX.ret' (iv .i64 v27) (ResOK.one Try.results18 rfl) [] [] trivial rfl ?_
            obtain rfl := Option.some.inj h
            exact ⟨rfl, rfl⟩
          · refine CodeT.block ?_
            refine CodeT.to (CodeT.loop (fun n (z : Int × Int × (Nat → Bool)) => fleet_Check_L32 φ v1 (fleet_Check_j28 φ) n z.1 z.2.1 z.2.2) r (fun z => ⟨Slots.of [(3, (eqv (.pointer (some ⟨b19, 0, none⟩)))), (4, (eqv (.func (.func 36) #[] #[(.pointer (some ⟨b19, 0, none⟩))]))), (13, (eqv (.pointer (some ⟨b26, 0, none⟩)))), (158, (ro eWash 3 v1.fWashes)), (159, (iv .i64 (v1.fWashes.length : Int))), (160, (iv .i64 z.1))], [(box b19 32 [(iv .i64 z.2.1)]), (box b26 93 ([] ++ arr 4096 eB z.2.2 ++ []))]⟩) (fun z => rfl) (fun n32 z ih32 h => ?_) φ (0, v24, (fun _ => false)) h) [0, 1] (sl rfl) (ol rfl) rfl
            obtain ⟨v29, v30, v31⟩ := z
            replace h : fleet_Check_L32 φ v1 (fleet_Check_j28 φ) (n32 + 1) v29 v30 v31 = some r := h
            rw [fleet_Check_L32] at h
            refine cs (cr [0] rfl ?_)
            refine cq rfl rfl rfl (opLss (mv rfl) (mv rfl)) ?_
            refine rn (al [3, 4, 13, 158, 159, 160, 161] [0, 1] rfl rfl rfl (sq (cs ?_)))
            refine CodeT.cond (decide (v29 < (v1.fWashes.length : Int))) (evBool (mv rfl)) (fun c33 => ?_) (fun c33 => ?_)
            · rw [if_pos c33] at h
              refine CodeT.skip ?_
              refine al [3, 4, 13, 158, 159, 160] [0, 1] rfl rfl rfl ?_
              refine sq (cs ?_)
              refine CodeT.block ?_
              refine cs (cr [0, 1, 2, 3] rfl ?_)
              refine ckE h fun h34 h => ?_
              refine cq rfl rfl rfl (opIndexR (e := eWash) (y := (gt v1.fWashes v29)) (ix25 H) (mv rfl) (mv rfl) (h34).1 (gt_some h34)) ?_
              refine RunOps.cons_q (agg (eWash (gt v1.fWashes v29))) rfl rfl rfl (opLoadN (tl86 H) (Pt.rop (mv rfl))) ?_
              refine RunOps.cons rfl rfl rfl (opAlloc [.int .i64 0, .int .i64 0, .int .i64 0] (ze86 H) rfl fun b35 => ?_)
              refine RunOps.cons rfl rfl rfl (opStore 2 (cells := [(iv .i64 0), (iv .i64 0), (iv .i64 0)]) (cs := (eWash (gt v1.fWashes v29))) (out := (eWash (gt v1.fWashes v29))) (tl86 H) (mv rfl) (Ce.agg (mv rfl)) rfl rfl (Nat.le_of_ble_eq_true rfl) rfl ?_)
              refine rn (al [3, 4, 13, 15, 158, 159, 160] [0, 1, 2] rfl rfl rfl (sq (cs (cr [0, 1, 2, 3, 4, 5, 6, 7, 8, 9, 10, 11, 12, 13, 14, 15, 16, 17, 18, 19, 20] rfl ?_))))
              refine cq rfl rfl rfl (opFieldP (fo86_0 H) (mv rfl)) ?_
              refine cq rfl rfl rfl (opLoad1 (tl3 H) ((Pt.box 2 (mv rfl) rfl rfl).take 1 (cs' := [(iv .i64 ((gt v1.fWashes v29).fFrom))]) rfl)) ?_
              refine bindE h fun y36 ey36 h => ?_
              refine cq rfl rfl rfl (opCallQ (fnok29 H) (args := [(iv .i64 ((gt v1.fWashes v29).fFrom)), (iv .i64 0), (iv .i64 63)]) ⟨EvF.of (mv rfl) FEnt.refl, EvF.of (Ev.const _) FEnt.refl, EvF.of (Ev.const _) FEnt.refl, trivial⟩ (fleet_between_ok H φ ((gt v1.fWashes v29).fFrom) 0 63 _ ey36) flat_eqv) ?_
              refine cq rfl rfl rfl (opMove (mv rfl)) ?_
              refine cg rfl rfl rfl rfl rfl (fun g37 => opFieldP (fo86_1 H) (mv rfl)) ?_
              refine cg rfl rfl rfl rfl rfl (fun g38 => opLoad1 (tl3 H) ((Pt.box 2 (Ev.cnd (mv rfl) g38) rfl rfl).take 1 (cs' := [(iv .i64 ((gt v1.fWashes v29).fTo))]) rfl)) ?_
              refine bindE h fun y40 ey40 h => ?_
              refine cg rfl rfl rfl rfl rfl (fun g39 => opCallQ (fnok29 H) (args := [(iv .i64 ((gt v1.fWashes v29).fTo)), (iv .i64 0), (iv .i64 63)]) ⟨EvF.of (Ev.cnd (mv rfl) g39) FEnt.refl, EvF.of (Ev.const _) FEnt.refl, EvF.of (Ev.const _) FEnt.refl, trivial⟩ (fleet_between_ok H φ ((gt v1.fWashes v29).fTo) 0 63 _ (gcall_pos ey40 g39)) flat_eqv) ?_
              refine cq rfl rfl rfl (opAnd (mv rfl) (fun g41 => (Ev.cnd (mv rfl) g41)) (Ev.const _)) ?_
              refine cq rfl rfl rfl (opMove (mv rfl)) ?_
              refine cg rfl rfl rfl rfl rfl (fun g42 => opFieldP (fo86_0 H) (mv rfl)) ?_
              refine cg rfl rfl rfl rfl rfl (fun g43 => opLoad1 (tl3 H) ((Pt.box 2 (Ev.cnd (mv rfl) g43) rfl rfl).take 1 (cs' := [(iv .i64 ((gt v1.fWashes v29).fFrom))]) rfl)) ?_
              refine cg rfl rfl rfl rfl rfl (fun g44 => opFieldP (fo86_1 H) (mv rfl)) ?_
              refine cg rfl rfl rfl rfl rfl (fun g45 => opLoad1 (tl3 H) ((Pt.box 2 (Ev.cnd (mv rfl) g45) rfl rfl).take 1 (cs' := [(iv .i64 ((gt v1.fWashes v29).fTo))]) rfl)) ?_
              refine cg rfl rfl rfl rfl rfl (fun g46 => opNeq (Ev.cnd (mv rfl) g46) (Ev.cnd (mv rfl) g46)) ?_
              refine cq rfl rfl rfl (opAnd (mv rfl) (fun g47 => (Ev.cnd (mv rfl) g47)) (Ev.const _)) ?_
              refine cq rfl rfl rfl (opMove (mv rfl)) ?_
              refine cg rfl rfl rfl rfl rfl (fun g48 => opFieldP (fo86_2 H) (mv rfl)) ?_
              refine cg rfl rfl rfl rfl rfl (fun g49 => opLoad1 (tl3 H) ((Pt.box 2 (Ev.cnd (mv rfl) g49) rfl rfl).take 1 (cs' := [(iv .i64 ((gt v1.fWashes v29).fMinutes))]) rfl)) ?_
              refine bindE h fun y51 ey51 h => ?_
              refine cg rfl rfl rfl rfl rfl (fun g50 => opCallQ (fnok29 H) (args := [(iv .i64 ((gt v1.fWashes v29).fMinutes)), (iv .i64 0), (iv .i64 100000)]) ⟨EvF.of (Ev.cnd (mv rfl) g50) FEnt.refl, EvF.of (Ev.const _) FEnt.refl, EvF.of (Ev.const _) FEnt.refl, trivial⟩ (fleet_between_ok H φ ((gt v1.fWashes v29).fMinutes) 0 100000 _ (gcall_pos ey51 g50)) flat_eqv) ?_
              refine cq rfl rfl rfl (opAnd (mv rfl) (fun g52 => (Ev.cnd (mv rfl) g52)) (Ev.const _)) ?_
              refine cq rfl rfl rfl (opAssign (mv rfl)) ?_
              refine rn (al [3, 4, 13, 15, 16, 158, 159, 160] [0, 1, 2] rfl rfl rfl (sq (cs (cr [0, 1, 2] rfl ?_))))
              refine cq rfl rfl rfl (opMove (mv rfl)) ?_
              refine cq rfl rfl rfl (opMove (mv rfl)) ?_
              refine RunOps.cons rfl rfl rfl (opCallT (fnok36 H) (mv rfl) (args := [(bv (((y36 && y40) && ((gt v1.fWashes v29).fFrom != (gt v1.fWashes v29).fTo)) && y51))]) ⟨(mv rfl), trivial⟩ (CallT.of_code' 5 (fn36 H) rfl rfl (Nat.le_of_ble_eq_true rfl) fun r052 wI52 => ?_))
              refine cl [0, 1] [0, 1, 2] rfl rfl rfl ?_
              refine cs (cr [0, 1] rfl ?_)
              refine cq rfl rfl rfl (opMove (mv rfl)) ?_
              refine cq rfl rfl rfl (opNot (mv rfl)) ?_
              refine rn (al [1, 4] [0, 1, 2] rfl rfl rfl (sq ?_))
              refine CodeT.join (fun z : Int => (fleet_Check_j54 φ v1 v29 v31 (fleet_Check_L32 φ v1 (fleet_Check_j28 φ) n32) y36 y40 y51) z) r (fun z => ⟨Slots.of [], [(box b19 32 [(iv .i64 z)]), (box b26 93 ([] ++ arr 4096 eB v31 ++ [])), (box b35 86 (eWash (gt v1.fWashes v29)))]⟩) (fun v53 h => ?_) (fun hJ54 => ?_)
              · replace h : (fleet_Check_j54 φ v1 v29 v31 (fleet_Check_L32 φ v1 (fleet_Check_j28 φ) n32) y36 y40 y51) v53 = some r := h
                unfold fleet_Check_j54 at h
                refine AtX.fall' (eqv (.tuple #[])) (ResOK.zero Try.results36) [0, 1, 2] [(box b19 32 [(iv .i64 v53)]), (box b26 93 ([] ++ arr 4096 eB v31 ++ [])), (box b35 86 (eWash (gt v1.fWashes v29)))] (ol rfl) rfl ?_
                refine rn (al [3, 4, 13, 15, 16, 158, 159, 160] [0, 1, 2] rfl rfl rfl (sq (cs (cr [0] rfl ?_))))
                refine cq rfl rfl rfl (opMove (mv rfl)) ?_
                refine rn (al [3, 4, 13, 15, 158, 159, 160, 187] [0, 1, 2] rfl rfl rfl (sq ?_))
                refine CodeT.join (fun z : Int × (Nat → Bool) => (fleet_Check_j57 φ v29 (fleet_Check_L32 φ v1 (fleet_Check_j28 φ) n32)) z.1 z.2) r (fun z => ⟨Slots.of [(3, (eqv (.pointer (some ⟨b19, 0, none⟩)))), (4, (eqv (.func (.func 36) #[] #[(.pointer (some ⟨b19, 0, none⟩))]))), (13, (eqv (.pointer (some ⟨b26, 0, none⟩)))), (158, (ro eWash 3 v1.fWashes)), (159, (iv .i64 (v1.fWashes.length : Int))), (160, (iv .i64 v29))], [(box b19 32 [(iv .i64 z.1)]), (box b26 93 ([] ++ arr 4096 eB z.2 ++ []))]⟩) (fun z h => ?_) (fun hJ57 => ?_)
                · obtain ⟨v55, v56⟩ := z
                  replace h : (fleet_Check_j57 φ v29 (fleet_Check_L32 φ v1 (fleet_Check_j28 φ) n32)) v55 v56 = some r := h
                  unfold fleet_Check_j57 at h
                  refine AtX.in_normal ?_
                  refine al [3, 4, 13, 158, 159, 160] [0, 1] rfl rfl rfl ?_
                  refine sq (cr [0, 1] rfl ?_)
                  refine cq rfl rfl rfl (opAdd (mv rfl) (Ev.const _)) ?_
                  refine cq rfl rfl rfl (opMove (mv rfl)) ?_
                  refine rn ?_
                  exact AtX.to (ih32 ((W (v29 + 1)), v55, v56) h) [0, 1] (sl rfl) (ol rfl) rfl
                · refine CodeT.cond (((y36 && y40) && ((gt v1.fWashes v29).fFrom != (gt v1.fWashes v29).fTo)) && y51) (evBool (mv rfl)) (fun c58 => ?_) (fun c58 => ?_)
                  · rw [if_pos c58] at h
                    refine cs ?_
                    refine ckE h fun h59 h => ?_
                    refine ckE h fun h60 h => ?_
                    refine CodeT.draw (QR := [(0, (eqv (.func (.func 36) #[] #[(.pointer (some ⟨b19, 0, none⟩))]))), (1, (eqv (.pointer (some ⟨b35, 0, none⟩)))), (2, (iv .i64 ((gt v1.fWashes v29).fFrom))), (3, (eqv (.pointer (some ⟨b35, 1, none⟩)))), (4, (iv .i64 ((gt v1.fWashes v29).fTo))), (5, (eqv (.pointer (some ⟨b26, 0 + ((gt v1.fWashes v29).fFrom : Int).toNat * 64, none⟩)))), (6, (eqv (.pointer (some ⟨b26, 0 + ((gt v1.fWashes v29).fFrom : Int).toNat * 64 + ((gt v1.fWashes v29).fTo : Int).toNat * 1, none⟩)))), (7, (bv (v31 (((gt v1.fWashes v29).fFrom : Int).toNat * 64 + ((gt v1.fWashes v29).fTo : Int).toNat)))), (8, (bv (!(v31 (((gt v1.fWashes v29).fFrom : Int).toNat * 64 + ((gt v1.fWashes v29).fTo : Int).toNat)))))]) (tab := [(some 188, []), (some 189, []), (some 190, [1]), (some 191, []), (some 192, [3]), (some 193, [2]), (some 194, [5, 4]), (some 195, [6]), (some 196, [7]), (some 197, [0, 8])]) (mixed H) ?_
                    refine Reg.intro [9] [] (by kernel_rfl) rfl ⟨rfl, rfl, rfl, rfl, rfl, rfl, rfl, rfl, rfl, trivial⟩ ⟨(fun _ => ⟨_, rfl, (opMove (mv rfl))⟩), (fun _ => ⟨_, rfl, (opFieldP (fo86_0 H) (mv rfl))⟩), (fun _ => ⟨_, rfl, (opLoad1 (tl3 H) ((Pt.box 2 (mv rfl) rfl rfl).take 1 (cs' := [(iv .i64 ((gt v1.fWashes v29).fFrom))]) rfl))⟩), (fun _ => ⟨_, rfl, (opFieldP (fo86_1 H) (mv rfl))⟩), (fun _ => ⟨_, rfl, (opLoad1 (tl3 H) ((Pt.box 2 (mv rfl) rfl rfl).take 1 (cs' := [(iv .i64 ((gt v1.fWashes v29).fTo))]) rfl))⟩), (fun _ => ⟨_, rfl, (opIndexA (ix93 H) (mv rfl) (mv rfl) (h59).1 (h59).2)⟩), (fun _ => ⟨_, rfl, (opIndexA (ix92 H) (mv rfl) (mv rfl) (h60).1 (h60).2)⟩), (fun _ => ⟨_, rfl, (opLoad1 (tl4 H) (Pt.ofArr (e := eB) 1 (off := 0 + ((gt v1.fWashes v29).fFrom : Int).toNat * 64 + ((gt v1.fWashes v29).fTo : Int).toNat * 1) (k := ((gt v1.fWashes v29).fFrom : Int).toNat * 64 + ((gt v1.fWashes v29).fTo : Int).toNat) (mv rfl) rfl lB (by have hb0 := h59; have hb1 := h60; simp only [List.length_nil, List.length_cons] <;> omega) (by have hb0 := h59; have hb1 := h60; omega)))⟩), (fun _ => ⟨_, rfl, (opNot (mv rfl))⟩), trivial⟩ ⟨⟨_, rfl, rfl, rfl, rfl, opCallT (fnok36 H) (mv rfl) (args := [(bv (!(v31 (((gt v1.fWashes v29).fFrom : Int).toNat * 64 + ((gt v1.fWashes v29).fTo : Int).toNat))))]) ⟨(mv rfl), trivial⟩ (CallT.of_code' 5 (fn36 H) rfl rfl (Nat.le_of_ble_eq_true rfl) fun r061 wI61 => ?_)⟩, trivial⟩ (fun hc => Bool.noConfusion (hc : false = true))
                    refine cl [0, 1] [0, 1, 2] rfl rfl rfl ?_
                    refine cs (cr [0, 1] rfl ?_)
                    refine cq rfl rfl rfl (opMove (mv rfl)) ?_
                    refine cq rfl rfl rfl (opNot (mv rfl)) ?_
                    refine rn (al [1, 4] [0, 1, 2] rfl rfl rfl (sq ?_))
                    refine CodeT.join (fun z : Int => (fleet_Check_j63 φ v1 v29 v31 (fleet_Check_j57 φ v29 (fleet_Check_L32 φ v1 (fleet_Check_j28 φ) n32))) z) r (fun z => ⟨Slots.of [], [(box b19 32 [(iv .i64 z)]), (box b26 93 ([] ++ arr 4096 eB v31 ++ [])), (box b35 86 (eWash (gt v1.fWashes v29)))]⟩) (fun v62 h => ?_) (fun hJ63 => ?_)
                    · replace h : (fleet_Check_j63 φ v1 v29 v31 (fleet_Check_j57 φ v29 (fleet_Check_L32 φ v1 (fleet_Check_j28 φ) n32))) v62 = some r := h
                      unfold fleet_Check_j63 at h
                      refine AtX.fall' (eqv (.tuple #[])) (ResOK.zero Try.results36) [0, 1, 2] [(box b19 32 [(iv .i64 v62)]), (box b26 93 ([] ++ arr 4096 eB v31 ++ [])), (box b35 86 (eWash (gt v1.fWashes v29)))] (ol rfl) rfl ?_
                      refine ⟨[], rfl, ?_⟩
                      refine Reg.intro [] [0, 1, 2, 3, 4, 5, 6, 7, 8] (by kernel_rfl) rfl ⟨rfl, rfl, rfl, rfl, rfl, rfl, rfl, rfl, rfl, trivial⟩ ⟨(fun hn => Bool.noConfusion (hn : true = false)), (fun hn => Bool.noConfusion (hn : true = false)), (fun hn => Bool.noConfusion (hn : true = false)), (fun hn => Bool.noConfusion (hn : true = false)), (fun hn => Bool.noConfusion (hn : true = false)), (fun hn => Bool.noConfusion (hn : true = false)), (fun hn => Bool.noConfusion (hn : true = false)), (fun hn => Bool.noConfusion (hn : true = false)), (fun hn => Bool.noConfusion (hn : true = false)), trivial⟩ trivial (fun _ => ?_)
                      refine al [3, 4, 13, 15, 158, 159, 160] [0, 1, 2] rfl rfl rfl ?_
                      refine sq ?_
                      refine CodeT.draw (QR := [(0, (eqv (.pointer (some ⟨b35, 0, none⟩)))), (1, (iv .i64 ((gt v1.fWashes v29).fFrom))), (2, (eqv (.pointer (some ⟨b35, 1, none⟩)))), (3, (iv .i64 ((gt v1.fWashes v29).fTo))), (4, (eqv (.pointer (some ⟨b26, 0 + ((gt v1.fWashes v29).fFrom : Int).toNat * 64, none⟩)))), (5, (eqv (.pointer (some ⟨b26, 0 + ((gt v1.fWashes v29).fFrom : Int).toNat * 64 + ((gt v1.fWashes v29).fTo : Int).toNat * 1, none⟩))))]) (tab := [(some 198, []), (some 199, [0]), (some 200, []), (some 201, [2]), (some 202, [1]), (some 203, [4, 3, 0, 1, 2, 3]), (none, [5, 0, 1, 2, 3])]) (mixed H) ?_
                      refine Reg.intro [6] [] (by kernel_rfl) rfl ⟨rfl, rfl, rfl, rfl, rfl, rfl, trivial⟩ ⟨(fun _ => ⟨_, rfl, (opFieldP (fo86_0 H) (mv rfl))⟩), (fun _ => ⟨_, rfl, (opLoad1 (tl3 H) ((Pt.box 2 (mv rfl) rfl rfl).take 1 (cs' := [(iv .i64 ((gt v1.fWashes v29).fFrom))]) rfl))⟩), (fun _ => ⟨_, rfl, (opFieldP (fo86_1 H) (mv rfl))⟩), (fun _ => ⟨_, rfl, (opLoad1 (tl3 H) ((Pt.box 2 (mv rfl) rfl rfl).take 1 (cs' := [(iv .i64 ((gt v1.fWashes v29).fTo))]) rfl))⟩), (fun _ => ⟨_, rfl, (opIndexA (ix93 H) (mv rfl) (mv rfl) (h59).1 (h59).2)⟩), (fun _ => ⟨_, rfl, (opIndexA (ix92 H) (mv rfl) (mv rfl) (h60).1 (h60).2)⟩), trivial⟩ ⟨⟨_, rfl, rfl, rfl, rfl, opStore 1 (off := 0 + ((gt v1.fWashes v29).fFrom : Int).toNat * 64 + ((gt v1.fWashes v29).fTo : Int).toNat * 1) (cells := ([] ++ arr 4096 eB v31 ++ [])) (cs := [(bv true)]) (out := ([] ++ arr 4096 eB (upd v31 (((gt v1.fWashes v29).fFrom : Int).toNat * 64 + ((gt v1.fWashes v29).fTo : Int).toNat) true) ++ [])) (tl4 H) (mv rfl) (Ce.one (Ev.const _) (One.eqv rfl)) rfl rfl (arr_bound (k := ((gt v1.fWashes v29).fFrom : Int).toNat * 64 + ((gt v1.fWashes v29).fTo : Int).toNat) lB (by have hb0 := h59; have hb1 := h60; simp only [List.length_nil, List.length_cons] <;> omega) (by have hb0 := h59; have hb1 := h60; omega) rfl) (arr_splice (k := ((gt v1.fWashes v29).fFrom : Int).toNat * 64 + ((gt v1.fWashes v29).fTo : Int).toNat) lB (by have hb0 := h59; have hb1 := h60; simp only [List.length_nil, List.length_cons] <;> omega) (by have hb0 := h59; have hb1 := h60; omega) rfl rfl) ⟨[], rfl, ?_⟩⟩, trivial⟩ (fun hc => Bool.noConfusion (hc : false = true))
                      refine Reg.intro [] [0, 1, 2, 3, 4, 5] (by kernel_rfl) rfl ⟨rfl, rfl, rfl, rfl, rfl, rfl, trivial⟩ ⟨(fun hn => Bool.noConfusion (hn : true = false)), (fun hn => Bool.noConfusion (hn : true = false)), (fun hn => Bool.noConfusion (hn : true = false)), (fun hn => Bool.noConfusion (hn : true = false)), (fun hn => Bool.noConfusion (hn : true = false)), (fun hn => Bool.noConfusion (hn : true = false)), trivial⟩ trivial (fun _ => ?_)
                      exact AtX.to (hJ57 (v62, (upd v31 (((gt v1.fWashes v29).fFrom : Int).toNat * 64 + ((gt v1.fWashes v29).fTo : Int).toNat) true)) h) [0, 1] (sl rfl) (ol rfl) rfl
                    · refine CodeT.cond (!(!(v31 (((gt v1.fWashes v29).fFrom : Int).toNat * 64 + ((gt v1.fWashes v29).fTo : Int).toNat)))) (evBool (mv rfl)) (fun c65 => ?_) (fun c65 => ?_)
                      · rw [if_pos c65] at h
                        refine cr [0] rfl ?_
                        refine RunOps.cons rfl rfl rfl (opStore 0 (cells := [(iv .i64 v53)]) (cs := [(iv .i64 1)]) (out := [(iv .i64 1)]) (tl32 H) (mv rfl) (Ce.one (Ev.const _) (One.eqv rfl)) rfl rfl (Nat.le_of_ble_eq_true rfl) rfl ?_)
                        refine rn ?_
                        exact AtX.to (hJ63 1 h) [0, 1, 2] trivial (ol rfl) rfl
                      · rw [if_neg (bne_true c65)] at h
                        refine CodeT.skip ?_
                        exact AtX.to (hJ63 v53 h) [0, 1, 2] trivial (ol rfl) rfl
                  · rw [if_neg (bne_true c58)] at h
                    refine CodeT.skip ?_
                    exact AtX.to (hJ57 (v53, v31) h) [0, 1] (sl rfl) (ol rfl) rfl
              · refine CodeT.cond (!(((y36 && y40) && ((gt v1.fWashes v29).fFrom != (gt v1.fWashes v29).fTo)) && y51)) (evBool (mv rfl)) (fun c66 => ?_) (fun c66 => ?_)
                · rw [if_pos c66] at h
                  refine cr [0] rfl ?_
                  refine RunOps.cons rfl rfl rfl (opStore 0 (cells := [(iv .i64 v30)]) (cs := [(iv .i64 1)]) (out := [(iv .i64 1)]) (tl32 H) (mv rfl) (Ce.one (Ev.const _) (One.eqv rfl)) rfl rfl (Nat.le_of_ble_eq_true rfl) rfl ?_)
                  refine rn ?_
                  exact AtX.to (hJ54 1 h) [0, 1, 2] trivial (ol rfl) rfl
                · rw [if_neg (bne_true c66)] at h
                  refine CodeT.skip ?_
                  exact AtX.to (hJ54 v30 h) [0, 1, 2] trivial (ol rfl) rfl
            · rw [if_neg (bne_true c33)] at h
              refine CodeT.exit ?_
              refine AtX.then_exit ?_
              refine AtX.then_exit ?_
              refine AtX.in_hit ?_
              exact AtX.to (hJ28 v30 h) [0] (sl rfl) (ol rfl) rfl
        · refine CodeT.block ?_
          refine CodeT.to (CodeT.loop (fun n (z : Int × Int) => fleet_Check_L69 φ v1 (fleet_Check_j25 φ v1) n z.1 z.2) r (fun z => ⟨Slots.of [(1, (eqv (.pointer (some ⟨b2, 0, none⟩)))), (3, (eqv (.pointer (some ⟨b19, 0, none⟩)))), (4, (eqv (.func (.func 36) #[] #[(.pointer (some ⟨b19, 0, none⟩))]))), (120, (ro eSwap 3 v1.fSwaps)), (121, (iv .i64 (v1.fSwaps.length : Int))), (122, (iv .i64 z.1))], [(box b2 27 (eFleet v1)), (box b19 32 [(iv .i64 z.2)])]⟩) (fun z => rfl) (fun n69 z ih69 h => ?_) φ (0, v22) h) [0, 1] (sl rfl) (ol rfl) rfl
          obtain ⟨v67, v68⟩ := z
          replace h : fleet_Check_L69 φ v1 (fleet_Check_j25 φ v1) (n69 + 1) v67 v68 = some r := h
          rw [fleet_Check_L69] at h
          refine cs (cr [0] rfl ?_)
          refine cq rfl rfl rfl (opLss (mv rfl) (mv rfl)) ?_
          refine rn (al [1, 3, 4, 120, 121, 122, 123] [0, 1] rfl rfl rfl (sq (cs ?_)))
          refine CodeT.cond (decide (v67 < (v1.fSwaps.length : Int))) (evBool (mv rfl)) (fun c70 => ?_) (fun c70 => ?_)
          · rw [if_pos c70] at h
            refine CodeT.skip ?_
            refine al [1, 3, 4, 120, 121, 122] [0, 1] rfl rfl rfl ?_
            refine sq (cs ?_)
            refine CodeT.block ?_
            refine cs (cr [0, 1, 2, 3] rfl ?_)
            refine ckE h fun h71 h => ?_
            refine cq rfl rfl rfl (opIndexR (e := eSwap) (y := (gt v1.fSwaps v67)) (ix24 H) (mv rfl) (mv rfl) (h71).1 (gt_some h71)) ?_
            refine RunOps.cons_q (agg (eSwap (gt v1.fSwaps v67))) rfl rfl rfl (opLoadN (tl43 H) (Pt.rop (mv rfl))) ?_
            refine RunOps.cons rfl rfl rfl (opAlloc [.int .i64 0, .int .i64 0, .int .i64 0] (ze43 H) rfl fun b72 => ?_)
            refine RunOps.cons rfl rfl rfl (opStore 2 (cells := [(iv .i64 0), (iv .i64 0), (iv .i64 0)]) (cs := (eSwap (gt v1.fSwaps v67))) (out := (eSwap (gt v1.fSwaps v67))) (tl43 H) (mv rfl) (Ce.agg (mv rfl)) rfl rfl (Nat.le_of_ble_eq_true rfl) rfl ?_)
            refine rn (al [1, 3, 4, 12, 120, 121, 122] [0, 1, 2] rfl rfl rfl (sq (cr [0, 1, 2, 3, 4, 5, 6, 7, 8, 9, 10, 11, 12, 13, 14, 15, 16, 17, 18, 19, 20, 21, 22, 23, 24, 25, 26, 27, 28, 29] rfl ?_)))
            refine cq rfl rfl rfl (opMove (mv rfl)) ?_
            refine cq rfl rfl rfl (opFieldP (fo43_0 H) (mv rfl)) ?_
            refine cq rfl rfl rfl (opLoad1 (tl3 H) ((Pt.box 2 (mv rfl) rfl rfl).take 1 (cs' := [(iv .i64 ((gt v1.fSwaps v67).fWanted))]) rfl)) ?_
            refine cq rfl rfl rfl (opFieldP (fo27_0 H) (mv rfl)) ?_
            refine cq rfl rfl rfl (opLoad1 (tl22 H) ((Pt.box 0 (mv rfl) rfl rfl).take 1 (cs' := [(ro eWagonType 8 v1.fTypes)]) rfl)) ?_
            refine cq rfl rfl rfl (opLenR (il22 H) (mv rfl)) ?_
            refine cq rfl rfl rfl (opSub (mv rfl) (Ev.const _)) ?_
            refine bindE h fun y73 ey73 h => ?_
            refine cq rfl rfl rfl (opCallQ (fnok29 H) (args := [(iv .i64 ((gt v1.fSwaps v67).fWanted)), (iv .i64 0), (iv .i64 (W ((v1.fTypes.length : Int) - 1)))]) ⟨EvF.of (mv rfl) FEnt.refl, EvF.of (Ev.const _) FEnt.refl, EvF.of (mv rfl) FEnt.refl, trivial⟩ (fleet_between_ok H φ ((gt v1.fSwaps v67).fWanted) 0 (W ((v1.fTypes.length : Int) - 1)) _ ey73) flat_eqv) ?_
            refine cq rfl rfl rfl (opMove (mv rfl)) ?_
            refine cg rfl rfl rfl rfl rfl (fun g74 => opFieldP (fo43_1 H) (mv rfl)) ?_
            refine cg rfl rfl rfl rfl rfl (fun g75 => opLoad1 (tl3 H) ((Pt.box 2 (Ev.cnd (mv rfl) g75) rfl rfl).take 1 (cs' := [(iv .i64 ((gt v1.fSwaps v67).fGiven))]) rfl)) ?_
            refine cg rfl rfl rfl rfl rfl (fun g76 => opFieldP (fo27_0 H) (mv rfl)) ?_
            refine cg rfl rfl rfl rfl rfl (fun g77 => opLoad1 (tl22 H) ((Pt.box 0 (Ev.cnd (mv rfl) g77) rfl rfl).take 1 (cs' := [(ro eWagonType 8 v1.fTypes)]) rfl)) ?_
            refine cg rfl rfl rfl rfl rfl (fun g78 => opLenR (il22 H) (Ev.cnd (mv rfl) g78)) ?_
            refine cg rfl rfl rfl rfl rfl (fun g79 => opSub (Ev.cnd (mv rfl) g79) (Ev.const _)) ?_
            refine bindE h fun y81 ey81 h => ?_
            refine cg rfl rfl rfl rfl rfl (fun g80 => opCallQ (fnok29 H) (args := [(iv .i64 ((gt v1.fSwaps v67).fGiven)), (iv .i64 0), (iv .i64 (W ((v1.fTypes.length : Int) - 1)))]) ⟨EvF.of (Ev.cnd (mv rfl) g80) FEnt.refl, EvF.of (Ev.const _) FEnt.refl, EvF.of (Ev.cnd (mv rfl) g80) FEnt.refl, trivial⟩ (fleet_between_ok H φ ((gt v1.fSwaps v67).fGiven) 0 (W ((v1.fTypes.length : Int) - 1)) _ (gcall_pos ey81 g80)) flat_eqv) ?_
            refine cq rfl rfl rfl (opAnd (mv rfl) (fun g82 => (Ev.cnd (mv rfl) g82)) (Ev.const _)) ?_
            refine cq rfl rfl rfl (opMove (mv rfl)) ?_
            refine cg rfl rfl rfl rfl rfl (fun g83 => opFieldP (fo43_0 H) (mv rfl)) ?_
            refine cg rfl rfl rfl rfl rfl (fun g84 => opLoad1 (tl3 H) ((Pt.box 2 (Ev.cnd (mv rfl) g84) rfl rfl).take 1 (cs' := [(iv .i64 ((gt v1.fSwaps v67).fWanted))]) rfl)) ?_
            refine cg rfl rfl rfl rfl rfl (fun g85 => opFieldP (fo43_1 H) (mv rfl)) ?_
            refine cg rfl rfl rfl rfl rfl (fun g86 => opLoad1 (tl3 H) ((Pt.box 2 (Ev.cnd (mv rfl) g86) rfl rfl).take 1 (cs' := [(iv .i64 ((gt v1.fSwaps v67).fGiven))]) rfl)) ?_
            refine cg rfl rfl rfl rfl rfl (fun g87 => opNeq (Ev.cnd (mv rfl) g87) (Ev.cnd (mv rfl) g87)) ?_
            refine cq rfl rfl rfl (opAnd (mv rfl) (fun g88 => (Ev.cnd (mv rfl) g88)) (Ev.const _)) ?_
            refine cq rfl rfl rfl (opMove (mv rfl)) ?_
            refine cg rfl rfl rfl rfl rfl (fun g89 => opFieldP (fo43_2 H) (mv rfl)) ?_
            refine cg rfl rfl rfl rfl rfl (fun g90 => opLoad1 (tl3 H) ((Pt.box 2 (Ev.cnd (mv rfl) g90) rfl rfl).take 1 (cs' := [(iv .i64 ((gt v1.fSwaps v67).fCost))]) rfl)) ?_
            refine bindE h fun y92 ey92 h => ?_
            refine cg rfl rfl rfl rfl rfl (fun g91 => opCallQ (fnok29 H) (args := [(iv .i64 ((gt v1.fSwaps v67).fCost)), (iv .i64 0), (iv .i64 1000000000)]) ⟨EvF.of (Ev.cnd (mv rfl) g91) FEnt.refl, EvF.of (Ev.const _) FEnt.refl, EvF.of (Ev.const _) FEnt.refl, trivial⟩ (fleet_between_ok H φ ((gt v1.fSwaps v67).fCost) 0 1000000000 _ (gcall_pos ey92 g91)) flat_eqv) ?_
            refine cq rfl rfl rfl (opAnd (mv rfl) (fun g93 => (Ev.cnd (mv rfl) g93)) (Ev.const _)) ?_
            refine RunOps.cons rfl rfl rfl (opCallT (fnok36 H) (mv rfl) (args := [(bv (((y73 && y81) && ((gt v1.fSwaps v67).fWanted != (gt v1.fSwaps v67).fGiven)) && y92))]) ⟨(mv rfl), trivial⟩ (CallT.of_code' 5 (fn36 H) rfl rfl (Nat.le_of_ble_eq_true rfl) fun r093 wI93 => ?_))
            refine cl [0, 1] [0, 1, 2] rfl rfl rfl ?_
            refine cs (cr [0, 1] rfl ?_)
            refine cq rfl rfl rfl (opMove (mv rfl)) ?_
            refine cq rfl rfl rfl (opNot (mv rfl)) ?_
            refine rn (al [1, 4] [0, 1, 2] rfl rfl rfl (sq ?_))
            refine CodeT.join (fun z : Int => (fleet_Check_j95 φ v67 (fleet_Check_L69 φ v1 (fleet_Check_j25 φ v1) n69)) z) r (fun z => ⟨Slots.of [], [(box b2 27 (eFleet v1)), (box b19 32 [(iv .i64 z)]), (box b72 43 (eSwap (gt v1.fSwaps v67)))]⟩) (fun v94 h => ?_) (fun hJ95 => ?_)
            · replace h : (fleet_Check_j95 φ v67 (fleet_Check_L69 φ v1 (fleet_Check_j25 φ v1) n69)) v94 = some r := h
              unfold fleet_Check_j95 at h
              refine AtX.fall' (eqv (.tuple #[])) (ResOK.zero Try.results36) [0, 1, 2] [(box b2 27 (eFleet v1)), (box b19 32 [(iv .i64 v94)]), (box b72 43 (eSwap (gt v1.fSwaps v67)))] (ol rfl) rfl ?_
              refine rn ?_
              refine AtX.in_normal ?_
              refine al [1, 3, 4, 120, 121, 122] [0, 1] rfl rfl rfl ?_
              refine sq (cr [0, 1] rfl ?_)
              refine cq rfl rfl rfl (opAdd (mv rfl) (Ev.const _)) ?_
              refine cq rfl rfl rfl (opMove (mv rfl)) ?_
              refine rn ?_
              exact AtX.to (ih69 ((W (v67 + 1)), v94) h) [0, 1] (sl rfl) (ol rfl) rfl
            · refine CodeT.cond (!(((y73 && y81) && ((gt v1.fSwaps v67).fWanted != (gt v1.fSwaps v67).fGiven)) && y92)) (evBool (mv rfl)) (fun c96 => ?_) (fun c96 => ?_)
              · rw [if_pos c96] at h
                refine cr [0] rfl ?_
                refine RunOps.cons rfl rfl rfl (opStore 1 (cells := [(iv .i64 v68)]) (cs := [(iv .i64 1)]) (out := [(iv .i64 1)]) (tl32 H) (mv rfl) (Ce.one (Ev.const _) (One.eqv rfl)) rfl rfl (Nat.le_of_ble_eq_true rfl) rfl ?_)
                refine rn ?_
                exact AtX.to (hJ95 1 h) [0, 1, 2] trivial (ol rfl) rfl
              · rw [if_neg (bne_true c96)] at h
                refine CodeT.skip ?_
                exact AtX.to (hJ95 v68 h) [0, 1, 2] trivial (ol rfl) rfl
          · rw [if_neg (bne_true c70)] at h
            refine CodeT.exit ?_
            refine AtX.then_exit ?_
            refine AtX.then_exit ?_
            refine AtX.in_hit ?_
            exact AtX.to (hJ25 v68 h) [0, 1] (sl rfl) (ol rfl) rfl
      · refine CodeT.block ?_
        refine CodeT.to (CodeT.loop (fun n (z : Int × Int) => fleet_Check_L99 φ v1 (fleet_Check_j23 φ v1) n z.1 z.2) r (fun z => ⟨Slots.of [(1, (eqv (.pointer (some ⟨b2, 0, none⟩)))), (3, (eqv (.pointer (some ⟨b19, 0, none⟩)))), (4, (eqv (.func (.func 36) #[] #[(.pointer (some ⟨b19, 0, none⟩))]))), (83, (ro eWagon 5 v1.fWagons)), (84, (iv .i64 (v1.fWagons.length : Int))), (85, (iv .i64 z.1))], [(box b2 27 (eFleet v1)), (box b19 32 [(iv .i64 z.2)])]⟩) (fun z => rfl) (fun n99 z ih99 h => ?_) φ (0, v20) h) [0, 1] (sl rfl) (ol rfl) rfl
        obtain ⟨v97, v98⟩ := z
        replace h : fleet_Check_L99 φ v1 (fleet_Check_j23 φ v1) (n99 + 1) v97 v98 = some r := h
        rw [fleet_Check_L99] at h
        refine cs (cr [0] rfl ?_)
        refine cq rfl rfl rfl (opLss (mv rfl) (mv rfl)) ?_
        refine rn (al [1, 3, 4, 83, 84, 85, 86] [0, 1] rfl rfl rfl (sq (cs ?_)))
        refine CodeT.cond (decide (v97 < (v1.fWagons.length : Int))) (evBool (mv rfl)) (fun c100 => ?_) (fun c100 => ?_)
        · rw [if_pos c100] at h
          refine CodeT.skip ?_
          refine al [1, 3, 4, 83, 84, 85] [0, 1] rfl rfl rfl ?_
          refine sq (cs ?_)
          refine CodeT.block ?_
          refine cs (cr [0, 1, 2, 3] rfl ?_)
          refine ckE h fun h101 h => ?_
          refine cq rfl rfl rfl (opIndexR (e := eWagon) (y := (gt v1.fWagons v97)) (ix23 H) (mv rfl) (mv rfl) (h101).1 (gt_some h101)) ?_
          refine RunOps.cons_q (agg (eWagon (gt v1.fWagons v97))) rfl rfl rfl (opLoadN (tl47 H) (Pt.rop (mv rfl))) ?_
          refine RunOps.cons rfl rfl rfl (opAlloc [.int .i64 0, .int .i64 0, .int .i64 0, .int .i64 0, .int .i64 0] (ze47 H) rfl fun b102 => ?_)
          refine RunOps.cons rfl rfl rfl (opStore 2 (cells := [(iv .i64 0), (iv .i64 0), (iv .i64 0), (iv .i64 0), (iv .i64 0)]) (cs := (eWagon (gt v1.fWagons v97))) (out := (eWagon (gt v1.fWagons v97))) (tl47 H) (mv rfl) (Ce.agg (mv rfl)) rfl rfl (Nat.le_of_ble_eq_true rfl) rfl ?_)
          refine rn (al [1, 3, 4, 10, 83, 84, 85] [0, 1, 2] rfl rfl rfl (sq (cs (cr [0, 1, 2, 3, 4, 5, 6, 7, 8, 9, 10, 11, 12, 13, 14, 15, 16, 17, 18] rfl ?_))))
          refine cq rfl rfl rfl (opMove (mv rfl)) ?_
          refine cq rfl rfl rfl (opFieldP (fo47_0 H) (mv rfl)) ?_
          refine cq rfl rfl rfl (opLoad1 (tl3 H) ((Pt.box 2 (mv rfl) rfl rfl).take 1 (cs' := [(iv .i64 ((gt v1.fWagons v97).fType))]) rfl)) ?_
          refine cq rfl rfl rfl (opFieldP (fo27_0 H) (mv rfl)) ?_
          refine cq rfl rfl rfl (opLoad1 (tl22 H) ((Pt.box 0 (mv rfl) rfl rfl).take 1 (cs' := [(ro eWagonType 8 v1.fTypes)]) rfl)) ?_
          refine cq rfl rfl rfl (opLenR (il22 H) (mv rfl)) ?_
          refine cq rfl rfl rfl (opSub (mv rfl) (Ev.const _)) ?_
          refine bindE h fun y103 ey103 h => ?_
          refine cq rfl rfl rfl (opCallQ (fnok29 H) (args := [(iv .i64 ((gt v1.fWagons v97).fType)), (iv .i64 0), (iv .i64 (W ((v1.fTypes.length : Int) - 1)))]) ⟨EvF.of (mv rfl) FEnt.refl, EvF.of (Ev.const _) FEnt.refl, EvF.of (mv rfl) FEnt.refl, trivial⟩ (fleet_between_ok H φ ((gt v1.fWagons v97).fType) 0 (W ((v1.fTypes.length : Int) - 1)) _ ey103) flat_eqv) ?_
          refine cq rfl rfl rfl (opMove (mv rfl)) ?_
          refine cg rfl rfl rfl rfl rfl (fun g104 => opFieldP (fo47_1 H) (mv rfl)) ?_
          refine cg rfl rfl rfl rfl rfl (fun g105 => opLoad1 (tl3 H) ((Pt.box 2 (Ev.cnd (mv rfl) g105) rfl rfl).take 1 (cs' := [(iv .i64 ((gt v1.fWagons v97).fOwner))]) rfl)) ?_
          refine bindE h fun y107 ey107 h => ?_
          refine cg rfl rfl rfl rfl rfl (fun g106 => opCallQ (fnok29 H) (args := [(iv .i64 ((gt v1.fWagons v97).fOwner)), (iv .i64 0), (iv .i64 63)]) ⟨EvF.of (Ev.cnd (mv rfl) g106) FEnt.refl, EvF.of (Ev.const _) FEnt.refl, EvF.of (Ev.const _) FEnt.refl, trivial⟩ (fleet_between_ok H φ ((gt v1.fWagons v97).fOwner) 0 63 _ (gcall_pos ey107 g106)) flat_eqv) ?_
          refine cq rfl rfl rfl (opAnd (mv rfl) (fun g108 => (Ev.cnd (mv rfl) g108)) (Ev.const _)) ?_
          refine cq rfl rfl rfl (opMove (mv rfl)) ?_
          refine cg rfl rfl rfl rfl rfl (fun g109 => opFieldP (fo47_2 H) (mv rfl)) ?_
          refine cg rfl rfl rfl rfl rfl (fun g110 => opLoad1 (tl3 H) ((Pt.box 2 (Ev.cnd (mv rfl) g110) rfl rfl).take 1 (cs' := [(iv .i64 ((gt v1.fWagons v97).fHome))]) rfl)) ?_
          refine bindE h fun y112 ey112 h => ?_
          refine cg rfl rfl rfl rfl rfl (fun g111 => opCallQ (fnok29 H) (args := [(iv .i64 ((gt v1.fWagons v97).fHome)), (iv .i64 0), (iv .i64 511)]) ⟨EvF.of (Ev.cnd (mv rfl) g111) FEnt.refl, EvF.of (Ev.const _) FEnt.refl, EvF.of (Ev.const _) FEnt.refl, trivial⟩ (fleet_between_ok H φ ((gt v1.fWagons v97).fHome) 0 511 _ (gcall_pos ey112 g111)) flat_eqv) ?_
          refine cq rfl rfl rfl (opAnd (mv rfl) (fun g113 => (Ev.cnd (mv rfl) g113)) (Ev.const _)) ?_
          refine RunOps.cons rfl rfl rfl (opCallT (fnok36 H) (mv rfl) (args := [(bv ((y103 && y107) && y112))]) ⟨(mv rfl), trivial⟩ (CallT.of_code' 5 (fn36 H) rfl rfl (Nat.le_of_ble_eq_true rfl) fun r0113 wI113 => ?_))
          refine cl [0, 1] [0, 1, 2] rfl rfl rfl ?_
          refine cs (cr [0, 1] rfl ?_)
          refine cq rfl rfl rfl (opMove (mv rfl)) ?_
          refine cq rfl rfl rfl (opNot (mv rfl)) ?_
          refine rn (al [1, 4] [0, 1, 2] rfl rfl rfl (sq ?_))
          refine CodeT.join (fun z : Int => (fleet_Check_j115 φ v1 v97 (fleet_Check_L99 φ v1 (fleet_Check_j23 φ v1) n99)) z) r (fun z => ⟨Slots.of [], [(box b2 27 (eFleet v1)), (box b19 32 [(iv .i64 z)]), (box b102 47 (eWagon (gt v1.fWagons v97)))]⟩) (fun v114 h => ?_) (fun hJ115 => ?_)
          · replace h : (fleet_Check_j115 φ v1 v97 (fleet_Check_L99 φ v1 (fleet_Check_j23 φ v1) n99)) v114 = some r := h
            unfold fleet_Check_j115 at h
            refine AtX.fall' (eqv (.tuple #[])) (ResOK.zero Try.results36) [0, 1, 2] [(box b2 27 (eFleet v1)), (box b19 32 [(iv .i64 v114)]), (box b102 47 (eWagon (gt v1.fWagons v97)))] (ol rfl) rfl ?_
            refine rn (al [1, 3, 4, 10, 83, 84, 85] [0, 1, 2] rfl rfl rfl (sq (cr [0, 1, 2, 3, 4, 5, 6, 7, 8, 9] rfl ?_)))
            refine cq rfl rfl rfl (opMove (mv rfl)) ?_
            refine cq rfl rfl rfl (opFieldP (fo47_3 H) (mv rfl)) ?_
            refine cq rfl rfl rfl (opLoad1 (tl3 H) ((Pt.box 2 (mv rfl) rfl rfl).take 1 (cs' := [(iv .i64 ((gt v1.fWagons v97).fBuilt))]) rfl)) ?_
            refine bindE h fun y116 ey116 h => ?_
            refine cq rfl rfl rfl (opCallQ (fnok29 H) (args := [(iv .i64 ((gt v1.fWagons v97).fBuilt)), (iv .i64 0), (iv .i64 1073741824)]) ⟨EvF.of (mv rfl) FEnt.refl, EvF.of (Ev.const _) FEnt.refl, EvF.of (Ev.const _) FEnt.refl, trivial⟩ (fleet_between_ok H φ ((gt v1.fWagons v97).fBuilt) 0 1073741824 _ ey116) flat_eqv) ?_
            refine cq rfl rfl rfl (opMove (mv rfl)) ?_
            refine cg rfl rfl rfl rfl rfl (fun g117 => opFieldP (fo47_4 H) (mv rfl)) ?_
            refine cg rfl rfl rfl rfl rfl (fun g118 => opLoad1 (tl3 H) ((Pt.box 2 (Ev.cnd (mv rfl) g118) rfl rfl).take 1 (cs' := [(iv .i64 ((gt v1.fWagons v97).fWorth))]) rfl)) ?_
            refine bindE h fun y120 ey120 h => ?_
            refine cg rfl rfl rfl rfl rfl (fun g119 => opCallQ (fnok29 H) (args := [(iv .i64 ((gt v1.fWagons v97).fWorth)), (iv .i64 0), (iv .i64 1099511627776)]) ⟨EvF.of (Ev.cnd (mv rfl) g119) FEnt.refl, EvF.of (Ev.const _) FEnt.refl, EvF.of (Ev.const _) FEnt.refl, trivial⟩ (fleet_between_ok H φ ((gt v1.fWagons v97).fWorth) 0 1099511627776 _ (gcall_pos ey120 g119)) flat_eqv) ?_
            refine cq rfl rfl rfl (opAnd (mv rfl) (fun g121 => (Ev.cnd (mv rfl) g121)) (Ev.const _)) ?_
            refine RunOps.cons rfl rfl rfl (opCallT (fnok36 H) (mv rfl) (args := [(bv (y116 && y120))]) ⟨(mv rfl), trivial⟩ (CallT.of_code' 5 (fn36 H) rfl rfl (Nat.le_of_ble_eq_true rfl) fun r0121 wI121 => ?_))
            refine cl [0, 1] [0, 1, 2] rfl rfl rfl ?_
            refine cs (cr [0, 1] rfl ?_)
            refine cq rfl rfl rfl (opMove (mv rfl)) ?_
            refine cq rfl rfl rfl (opNot (mv rfl)) ?_
            refine rn (al [1, 4] [0, 1, 2] rfl rfl rfl (sq ?_))
            refine CodeT.join (fun z : Int => (fleet_Check_j123 φ v97 (fleet_Check_L99 φ v1 (fleet_Check_j23 φ v1) n99)) z) r (fun z => ⟨Slots.of [], [(box b2 27 (eFleet v1)), (box b19 32 [(iv .i64 z)]), (box b102 47 (eWagon (gt v1.fWagons v97)))]⟩) (fun v122 h => ?_) (fun hJ123 => ?_)
            · replace h : (fleet_Check_j123 φ v97 (fleet_Check_L99 φ v1 (fleet_Check_j23 φ v1) n99)) v122 = some r := h
              unfold fleet_Check_j123 at h
              refine AtX.fall' (eqv (.tuple #[])) (ResOK.zero Try.results36) [0, 1, 2] [(box b2 27 (eFleet v1)), (box b19 32 [(iv .i64 v122)]), (box b102 47 (eWagon (gt v1.fWagons v97)))] (ol rfl) rfl ?_
              refine rn ?_
              refine AtX.in_normal ?_
              refine al [1, 3, 4, 83, 84, 85] [0, 1] rfl rfl rfl ?_
              refine sq (cr [0, 1] rfl ?_)
              refine cq rfl rfl rfl (opAdd (mv rfl) (Ev.const _)) ?_
              refine cq rfl rfl rfl (opMove (mv rfl)) ?_
              refine rn ?_
              exact AtX.to (ih99 ((W (v97 + 1)), v122) h) [0, 1] (sl rfl) (ol rfl) rfl
            · refine CodeT.cond (!(y116 && y120)) (evBool (mv rfl)) (fun c124 => ?_) (fun c124 => ?_)
              · rw [if_pos c124] at h
                refine cr [0] rfl ?_
                refine RunOps.cons rfl rfl rfl (opStore 1 (cells := [(iv .i64 v114)]) (cs := [(iv .i64 1)]) (out := [(iv .i64 1)]) (tl32 H) (mv rfl) (Ce.one (Ev.const _) (One.eqv rfl)) rfl rfl (Nat.le_of_ble_eq_true rfl) rfl ?_)
                refine rn ?_
                exact AtX.to (hJ123 1 h) [0, 1, 2] trivial (ol rfl) rfl
              · rw [if_neg (bne_true c124)] at h
                refine CodeT.skip ?_
                exact AtX.to (hJ123 v114 h) [0, 1, 2] trivial (ol rfl) rfl
          · refine CodeT.cond (!((y103 && y107) && y112)) (evBool (mv rfl)) (fun c125 => ?_) (fun c125 => ?_)
            · rw [if_pos c125] at h
              refine cr [0] rfl ?_
              refine RunOps.cons rfl rfl rfl (opStore 1 (cells := [(iv .i64 v98)]) (cs := [(iv .i64 1)]) (out := [(iv .i64 1)]) (tl32 H) (mv rfl) (Ce.one (Ev.const _) (One.eqv rfl)) rfl rfl (Nat.le_of_ble_eq_true rfl) rfl ?_)
              refine rn ?_
              exact AtX.to (hJ115 1 h) [0, 1, 2] trivial (ol rfl) rfl
            · rw [if_neg (bne_true c125)] at h
              refine CodeT.skip ?_
              exact AtX.to (hJ115 v98 h) [0, 1, 2] trivial (ol rfl) rfl
        · rw [if_neg (bne_true c100)] at h
          refine CodeT.exit ?_
          refine AtX.then_exit ?_
          refine AtX.then_exit ?_
          refine AtX.in_hit ?_
          exact AtX.to (hJ23 v98 h) [0, 1] (sl rfl) (ol rfl) rfl
    · refine CodeT.block ?_
      refine CodeT.to (CodeT.loop (fun n (z : Int × Int) => fleet_Check_L128 φ v1 (fleet_Check_j21 φ v1) n z.1 z.2) r (fun z => ⟨Slots.of [(1, (eqv (.pointer (some ⟨b2, 0, none⟩)))), (3, (eqv (.pointer (some ⟨b19, 0, none⟩)))), (4, (eqv (.func (.func 36) #[] #[(.pointer (some ⟨b19, 0, none⟩))]))), (41, (ro eWagonType 8 v1.fTypes)), (42, (iv .i64 (v1.fTypes.length : Int))), (43, (iv .i64 z.1))], [(box b2 27 (eFleet v1)), (box b19 32 [(iv .i64 z.2)])]⟩) (fun z => rfl) (fun n128 z ih128 h => ?_) φ (0, 0) h) [0, 1] (sl rfl) (ol rfl) rfl
      obtain ⟨v126, v127⟩ := z
      replace h : fleet_Check_L128 φ v1 (fleet_Check_j21 φ v1) (n128 + 1) v126 v127 = some r := h
      rw [fleet_Check_L128] at h
      refine cs (cr [0] rfl ?_)
      refine cq rfl rfl rfl (opLss (mv rfl) (mv rfl)) ?_
      refine rn (al [1, 3, 4, 41, 42, 43, 44] [0, 1] rfl rfl rfl (sq (cs ?_)))
      refine CodeT.cond (decide (v126 < (v1.fTypes.length : Int))) (evBool (mv rfl)) (fun c129 => ?_) (fun c129 => ?_)
      · rw [if_pos c129] at h
        refine CodeT.skip ?_
        refine al [1, 3, 4, 41, 42, 43] [0, 1] rfl rfl rfl ?_
        refine sq (cs ?_)
        refine CodeT.join (fun z : Int => (fleet_Check_j131 φ v126 (fleet_Check_L128 φ v1 (fleet_Check_j21 φ v1) n128)) z) r (fun z => ⟨Slots.of [(1, (eqv (.pointer (some ⟨b2, 0, none⟩)))), (3, (eqv (.pointer (some ⟨b19, 0, none⟩)))), (4, (eqv (.func (.func 36) #[] #[(.pointer (some ⟨b19, 0, none⟩))]))), (41, (ro eWagonType 8 v1.fTypes)), (42, (iv .i64 (v1.fTypes.length : Int))), (43, (iv .i64 v126))], [(box b2 27 (eFleet v1)), (box b19 32 [(iv .i64 z)])]⟩) (fun v130 h => ?_) (fun hJ131 => ?_)
        · replace h : (fleet_Check_j131 φ v126 (fleet_Check_L128 φ v1 (fleet_Check_j21 φ v1) n128)) v130 = some r := h
          unfold fleet_Check_j131 at h
          refine al [1, 3, 4, 41, 42, 43] [0, 1] rfl rfl rfl ?_
          refine sq (cr [0, 1] rfl ?_)
          refine cq rfl rfl rfl (opAdd (mv rfl) (Ev.const _)) ?_
          refine cq rfl rfl rfl (opMove (mv rfl)) ?_
          refine rn ?_
          exact AtX.to (ih128 ((W (v126 + 1)), v130) h) [0, 1] (sl rfl) (ol rfl) rfl
        · refine CodeT.block ?_
          refine cs (cr [0, 1, 2, 3] rfl ?_)
          refine ckE h fun h132 h => ?_
          refine cq rfl rfl rfl (opIndexR (e := eWagonType) (y := (gt v1.fTypes v126)) (ix22 H) (mv rfl) (mv rfl) (h132).1 (gt_some h132)) ?_
          refine RunOps.cons_q (agg (eWagonType (gt v1.fTypes v126))) rfl rfl rfl (opLoadN (tl50 H) (Pt.rop (mv rfl))) ?_
          refine RunOps.cons rfl rfl rfl (opAlloc [.int .i64 0, .int .i64 0, .int .i64 0, .int .i64 0, .int .i64 0, .int .u64 0, .int .i64 0, .int .i64 0] (ze50 H) rfl fun b133 => ?_)
          refine RunOps.cons rfl rfl rfl (opStore 2 (cells := [(iv .i64 0), (iv .i64 0), (iv .i64 0), (iv .i64 0), (iv .i64 0), (iv .u64 0), (iv .i64 0), (iv .i64 0)]) (cs := (eWagonType (gt v1.fTypes v126))) (out := (eWagonType (gt v1.fTypes v126))) (tl50 H) (mv rfl) (Ce.agg (mv rfl)) rfl rfl (Nat.le_of_ble_eq_true rfl) rfl ?_)
          refine rn (al [1, 3, 4, 6, 41, 42, 43] [0, 1, 2] rfl rfl rfl (sq (cs (cs (cr [0, 1, 2, 3, 4, 5, 6, 7, 8, 9, 10] rfl ?_)))))
          refine cq rfl rfl rfl (opFieldP (fo50_0 H) (mv rfl)) ?_
          refine cq rfl rfl rfl (opLoad1 (tl3 H) ((Pt.box 2 (mv rfl) rfl rfl).take 1 (cs' := [(iv .i64 ((gt v1.fTypes v126).fLoad))]) rfl)) ?_
          refine cq rfl rfl rfl (opFieldP (fo50_1 H) (mv rfl)) ?_
          refine cq rfl rfl rfl (opLoad1 (tl3 H) ((Pt.box 2 (mv rfl) rfl rfl).take 1 (cs' := [(iv .i64 ((gt v1.fTypes v126).fTare))]) rfl)) ?_
          refine cq rfl rfl rfl (opFieldP (fo50_2 H) (mv rfl)) ?_
          refine cq rfl rfl rfl (opLoad1 (tl3 H) ((Pt.box 2 (mv rfl) rfl rfl).take 1 (cs' := [(iv .i64 ((gt v1.fTypes v126).fLength))]) rfl)) ?_
          refine cq rfl rfl rfl (opFieldP (fo50_4 H) (mv rfl)) ?_
          refine cq rfl rfl rfl (opLoad1 (tl3 H) ((Pt.box 2 (mv rfl) rfl rfl).take 1 (cs' := [(iv .i64 ((gt v1.fTypes v126).fBrake))]) rfl)) ?_
          refine RunOps.cons rfl rfl rfl (opBuildSlice (e := eI64) [(gt v1.fTypes v126).fLoad, (gt v1.fTypes v126).fTare, (gt v1.fTypes v126).fLength, (gt v1.fTypes v126).fBrake] (sl41 H) lI64 rfl (by decide) ⟨rfl, (Ce.one (mv rfl) (One.eqv rfl)), ⟨rfl, (Ce.one (mv rfl) (One.eqv rfl)), ⟨rfl, (Ce.one (mv rfl) (One.eqv rfl)), ⟨rfl, (Ce.one (mv rfl) (One.eqv rfl)), trivial⟩⟩⟩⟩ fun sv134 => ?_)
          refine cq rfl rfl rfl (opLenO 3 (il41 H) (mv rfl) rfl) ?_
          refine cq rfl rfl rfl (opMove (Ev.const _)) ?_
          refine rn (al [1, 3, 4, 6, 41, 42, 43, 55, 56, 57] [0, 1, 2, 3] rfl rfl rfl (sq ?_))
          refine CodeT.join (fun z : Int => (fleet_Check_j136 φ v1 v126 (fleet_Check_j131 φ v126 (fleet_Check_L128 φ v1 (fleet_Check_j21 φ v1) n128))) z) r (fun z => ⟨Slots.of [(1, (eqv (.pointer (some ⟨b2, 0, none⟩)))), (3, (eqv (.pointer (some ⟨b19, 0, none⟩)))), (4, (eqv (.func (.func 36) #[] #[(.pointer (some ⟨b19, 0, none⟩))]))), (6, (eqv (.pointer (some ⟨b133, 0, none⟩)))), (41, (ro eWagonType 8 v1.fTypes)), (42, (iv .i64 (v1.fTypes.length : Int))), (43, (iv .i64 v126))], [(box b2 27 (eFleet v1)), (box b19 32 [(iv .i64 z)]), (box b133 50 (eWagonType (gt v1.fTypes v126)))]⟩) (fun v135 h => ?_) (fun hJ136 => ?_)
          · replace h : (fleet_Check_j136 φ v1 v126 (fleet_Check_j131 φ v126 (fleet_Check_L128 φ v1 (fleet_Check_j21 φ v1) n128))) v135 = some r := h
            unfold fleet_Check_j136 at h
            refine al [1, 3, 4, 6, 41, 42, 43] [0, 1, 2] rfl rfl rfl ?_
            refine sq (cr [0, 1, 2, 3, 4, 5, 6, 7, 8, 9, 10, 11, 12, 13, 14] rfl ?_)
            refine cq rfl rfl rfl (opMove (mv rfl)) ?_
            refine cq rfl rfl rfl (opFieldP (fo50_3 H) (mv rfl)) ?_
            refine cq rfl rfl rfl (opLoad1 (tl3 H) ((Pt.box 2 (mv rfl) rfl rfl).take 1 (cs' := [(iv .i64 ((gt v1.fTypes v126).fGauge))]) rfl)) ?_
            refine bindE h fun y137 ey137 h => ?_
            refine cq rfl rfl rfl (opCallQ (fnok29 H) (args := [(iv .i64 ((gt v1.fTypes v126).fGauge)), (iv .i64 0), (iv .i64 7)]) ⟨EvF.of (mv rfl) FEnt.refl, EvF.of (Ev.const _) FEnt.refl, EvF.of (Ev.const _) FEnt.refl, trivial⟩ (fleet_between_ok H φ ((gt v1.fTypes v126).fGauge) 0 7 _ ey137) flat_eqv) ?_
            refine cq rfl rfl rfl (opMove (mv rfl)) ?_
            refine cg rfl rfl rfl rfl rfl (fun g138 => opFieldP (fo50_6 H) (mv rfl)) ?_
            refine cg rfl rfl rfl rfl rfl (fun g139 => opLoad1 (tl3 H) ((Pt.box 2 (Ev.cnd (mv rfl) g139) rfl rfl).take 1 (cs' := [(iv .i64 ((gt v1.fTypes v126).fLife))]) rfl)) ?_
            refine bindE h fun y141 ey141 h => ?_
            refine cg rfl rfl rfl rfl rfl (fun g140 => opCallQ (fnok29 H) (args := [(iv .i64 ((gt v1.fTypes v126).fLife)), (iv .i64 1), (iv .i64 1073741824)]) ⟨EvF.of (Ev.cnd (mv rfl) g140) FEnt.refl, EvF.of (Ev.const _) FEnt.refl, EvF.of (Ev.const _) FEnt.refl, trivial⟩ (fleet_between_ok H φ ((gt v1.fTypes v126).fLife) 1 1073741824 _ (gcall_pos ey141 g140)) flat_eqv) ?_
            refine cq rfl rfl rfl (opAnd (mv rfl) (fun g142 => (Ev.cnd (mv rfl) g142)) (Ev.const _)) ?_
            refine cq rfl rfl rfl (opMove (mv rfl)) ?_
            refine cg rfl rfl rfl rfl rfl (fun g143 => opFieldP (fo50_7 H) (mv rfl)) ?_
            refine cg rfl rfl rfl rfl rfl (fun g144 => opLoad1 (tl3 H) ((Pt.box 2 (Ev.cnd (mv rfl) g144) rfl rfl).take 1 (cs' := [(iv .i64 ((gt v1.fTypes v126).fFloor))]) rfl)) ?_
            refine bindE h fun y146 ey146 h => ?_
            refine cg rfl rfl rfl rfl rfl (fun g145 => opCallQ (fnok29 H) (args := [(iv .i64 ((gt v1.fTypes v126).fFloor)), (iv .i64 0), (iv .i64 100)]) ⟨EvF.of (Ev.cnd (mv rfl) g145) FEnt.refl, EvF.of (Ev.const _) FEnt.refl, EvF.of (Ev.const _) FEnt.refl, trivial⟩ (fleet_between_ok H φ ((gt v1.fTypes v126).fFloor) 0 100 _ (gcall_pos ey146 g145)) flat_eqv) ?_
            refine cq rfl rfl rfl (opAnd (mv rfl) (fun g147 => (Ev.cnd (mv rfl) g147)) (Ev.const _)) ?_
            refine RunOps.cons rfl rfl rfl (opCallT (fnok36 H) (mv rfl) (args := [(bv ((y137 && y141) && y146))]) ⟨(mv rfl), trivial⟩ (CallT.of_code' 5 (fn36 H) rfl rfl (Nat.le_of_ble_eq_true rfl) fun r0147 wI147 => ?_))
            refine cl [0, 1] [0, 1, 2] rfl rfl rfl ?_
            refine cs (cr [0, 1] rfl ?_)
            refine cq rfl rfl rfl (opMove (mv rfl)) ?_
            refine cq rfl rfl rfl (opNot (mv rfl)) ?_
            refine rn (al [1, 4] [0, 1, 2] rfl rfl rfl (sq ?_))
            refine CodeT.join (fun z : Int => (fleet_Check_j149 φ (fleet_Check_j131 φ v126 (fleet_Check_L128 φ v1 (fleet_Check_j21 φ v1) n128))) z) r (fun z => ⟨Slots.of [], [(box b2 27 (eFleet v1)), (box b19 32 [(iv .i64 z)]), (box b133 50 (eWagonType (gt v1.fTypes v126)))]⟩) (fun v148 h => ?_) (fun hJ149 => ?_)
            · replace h : (fleet_Check_j149 φ (fleet_Check_j131 φ v126 (fleet_Check_L128 φ v1 (fleet_Check_j21 φ v1) n128))) v148 = some r := h
              unfold fleet_Check_j149 at h
              refine AtX.fall' (eqv (.tuple #[])) (ResOK.zero Try.results36) [0, 1, 2] [(box b2 27 (eFleet v1)), (box b19 32 [(iv .i64 v148)]), (box b133 50 (eWagonType (gt v1.fTypes v126)))] (ol rfl) rfl ?_
              refine rn ?_
              refine AtX.in_normal ?_
              exact AtX.to (hJ131 v148 h) [0, 1] (sl rfl) (ol rfl) rfl
            · refine CodeT.cond (!((y137 && y141) && y146)) (evBool (mv rfl)) (fun c150 => ?_) (fun c150 => ?_)
              · rw [if_pos c150] at h
                refine cr [0] rfl ?_
                refine RunOps.cons rfl rfl rfl (opStore 1 (cells := [(iv .i64 v135)]) (cs := [(iv .i64 1)]) (out := [(iv .i64 1)]) (tl32 H) (mv rfl) (Ce.one (Ev.const _) (One.eqv rfl)) rfl rfl (Nat.le_of_ble_eq_true rfl) rfl ?_)
                refine rn ?_
                exact AtX.to (hJ149 1 h) [0, 1, 2] trivial (ol rfl) rfl
              · rw [if_neg (bne_true c150)] at h
                refine CodeT.skip ?_
                exact AtX.to (hJ149 v135 h) [0, 1, 2] trivial (ol rfl) rfl
          · refine CodeT.block ?_
            refine CodeT.to (CodeT.loop (fun n (z : Int × Int) => fleet_Check_L153 φ v1 v126 (fleet_Check_j136 φ v1 v126 (fleet_Check_j131 φ v126 (fleet_Check_L128 φ v1 (fleet_Check_j21 φ v1) n128))) n z.1 z.2) r (fun z => ⟨Slots.of [(1, (eqv (.pointer (some ⟨b2, 0, none⟩)))), (3, (eqv (.pointer (some ⟨b19, 0, none⟩)))), (4, (eqv (.func (.func 36) #[] #[(.pointer (some ⟨b19, 0, none⟩))]))), (6, (eqv (.pointer (some ⟨b133, 0, none⟩)))), (41, (ro eWagonType 8 v1.fTypes)), (42, (iv .i64 (v1.fTypes.length : Int))), (43, (iv .i64 v126)), (55, (eqv sv134)), (56, (iv .i64 ([(gt v1.fTypes v126).fLoad, (gt v1.fTypes v126).fTare, (gt v1.fTypes v126).fLength, (gt v1.fTypes v126).fBrake].length : Int))), (57, (iv .i64 z.1))], [(box b2 27 (eFleet v1)), (box b19 32 [(iv .i64 z.2)]), (box b133 50 (eWagonType (gt v1.fTypes v126))), (row 3 eI64 1 [(gt v1.fTypes v126).fLoad, (gt v1.fTypes v126).fTare, (gt v1.fTypes v126).fLength, (gt v1.fTypes v126).fBrake] sv134)]⟩) (fun z => rfl) (fun n153 z ih153 h => ?_) φ (0, v127) h) [0, 1, 2, 3] (sl rfl) (ol rfl) rfl
            obtain ⟨v151, v152⟩ := z
            replace h : fleet_Check_L153 φ v1 v126 (fleet_Check_j136 φ v1 v126 (fleet_Check_j131 φ v126 (fleet_Check_L128 φ v1 (fleet_Check_j21 φ v1) n128))) (n153 + 1) v151 v152 = some r := h
            rw [fleet_Check_L153] at h
            refine cs (cr [0] rfl ?_)
            refine cq rfl rfl rfl (opLss (mv rfl) (mv rfl)) ?_
            refine rn (al [1, 3, 4, 6, 41, 42, 43, 55, 56, 57, 58] [0, 1, 2, 3] rfl rfl rfl (sq (cs ?_)))
            refine CodeT.cond (decide (v151 < ([(gt v1.fTypes v126).fLoad, (gt v1.fTypes v126).fTare, (gt v1.fTypes v126).fLength, (gt v1.fTypes v126).fBrake].length : Int))) (evBool (mv rfl)) (fun c154 => ?_) (fun c154 => ?_)
            · rw [if_pos c154] at h
              refine CodeT.skip ?_
              refine al [1, 3, 4, 6, 41, 42, 43, 55, 56, 57] [0, 1, 2, 3] rfl rfl rfl ?_
              refine sq (cs ?_)
              refine CodeT.block ?_
              refine cs (cr [0, 1, 2] rfl ?_)
              refine ckE h fun h155 h => ?_
              refine cq rfl rfl rfl (opIndexO 3 (ix41 H) (mv rfl) rfl (mv rfl) (h155).1 (h155).2) ?_
              refine cq rfl rfl rfl (opLoad1 (tl3 H) ((Pt.row _ 3 (k := (v151 : Int).toNat) (fo := 0) lI64 (mv rfl) rfl (by omega) (gt_some h155) rfl).take 1 (cs' := [(iv .i64 (gt [(gt v1.fTypes v126).fLoad, (gt v1.fTypes v126).fTare, (gt v1.fTypes v126).fLength, (gt v1.fTypes v126).fBrake] v151))]) rfl)) ?_
              refine cq rfl rfl rfl (opAssign (mv rfl)) ?_
              refine rn (al [1, 3, 4, 6, 8, 41, 42, 43, 55, 56, 57] [0, 1, 2, 3] rfl rfl rfl (sq (cr [0, 1, 2, 3] rfl ?_)))
              refine cq rfl rfl rfl (opMove (mv rfl)) ?_
              refine cq rfl rfl rfl (opMove (mv rfl)) ?_
              refine bindE h fun y156 ey156 h => ?_
              refine cq rfl rfl rfl (opCallQ (fnok29 H) (args := [(iv .i64 (gt [(gt v1.fTypes v126).fLoad, (gt v1.fTypes v126).fTare, (gt v1.fTypes v126).fLength, (gt v1.fTypes v126).fBrake] v151)), (iv .i64 0), (iv .i64 1000000)]) ⟨EvF.of (mv rfl) FEnt.refl, EvF.of (Ev.const _) FEnt.refl, EvF.of (Ev.const _) FEnt.refl, trivial⟩ (fleet_between_ok H φ (gt [(gt v1.fTypes v126).fLoad, (gt v1.fTypes v126).fTare, (gt v1.fTypes v126).fLength, (gt v1.fTypes v126).fBrake] v151) 0 1000000 _ ey156) flat_eqv) ?_
              refine RunOps.cons rfl rfl rfl (opCallT (fnok36 H) (mv rfl) (args := [(bv y156)]) ⟨(mv rfl), trivial⟩ (CallT.of_code' 5 (fn36 H) rfl rfl (Nat.le_of_ble_eq_true rfl) fun r0156 wI156 => ?_))
              refine cl [0, 1] [0, 1, 2, 3] rfl rfl rfl ?_
              refine cs (cr [0, 1] rfl ?_)
              refine cq rfl rfl rfl (opMove (mv rfl)) ?_
              refine cq rfl rfl rfl (opNot (mv rfl)) ?_
              refine rn (al [1, 4] [0, 1, 2, 3] rfl rfl rfl (sq ?_))
              refine CodeT.join (fun z : Int => (fleet_Check_j158 φ v151 (fleet_Check_L153 φ v1 v126 (fleet_Check_j136 φ v1 v126 (fleet_Check_j131 φ v126 (fleet_Check_L128 φ v1 (fleet_Check_j21 φ v1) n128))) n153)) z) r (fun z => ⟨Slots.of [], [(box b2 27 (eFleet v1)), (box b19 32 [(iv .i64 z)]), (box b133 50 (eWagonType (gt v1.fTypes v126))), (row 3 eI64 1 [(gt v1.fTypes v126).fLoad, (gt v1.fTypes v126).fTare, (gt v1.fTypes v126).fLength, (gt v1.fTypes v126).fBrake] sv134)]⟩) (fun v157 h => ?_) (fun hJ158 => ?_)
              · replace h : (fleet_Check_j158 φ v151 (fleet_Check_L153 φ v1 v126 (fleet_Check_j136 φ v1 v126 (fleet_Check_j131 φ v126 (fleet_Check_L128 φ v1 (fleet_Check_j21 φ v1) n128))) n153)) v157 = some r := h
                unfold fleet_Check_j158 at h
                refine AtX.fall' (eqv (.tuple #[])) (ResOK.zero Try.results36) [0, 1, 2, 3] [(box b2 27 (eFleet v1)), (box b19 32 [(iv .i64 v157)]), (box b133 50 (eWagonType (gt v1.fTypes v126))), (row 3 eI64 1 [(gt v1.fTypes v126).fLoad, (gt v1.fTypes v126).fTare, (gt v1.fTypes v126).fLength, (gt v1.fTypes v126).fBrake] sv134)] (ol rfl) rfl ?_
                refine rn ?_
                refine AtX.in_normal ?_
                refine al [1, 3, 4, 6, 41, 42, 43, 55, 56, 57] [0, 1, 2, 3] rfl rfl rfl ?_
                refine sq (cr [0, 1] rfl ?_)
                refine cq rfl rfl rfl (opAdd (mv rfl) (Ev.const _)) ?_
                refine cq rfl rfl rfl (opMove (mv rfl)) ?_
                refine rn ?_
                exact AtX.to (ih153 ((W (v151 + 1)), v157) h) [0, 1, 2, 3] (sl rfl) (ol rfl) rfl
              · refine CodeT.cond (!y156) (evBool (mv rfl)) (fun c159 => ?_) (fun c159 => ?_)
                · rw [if_pos c159] at h
                  refine cr [0] rfl ?_
                  refine RunOps.cons rfl rfl rfl (opStore 1 (cells := [(iv .i64 v152)]) (cs := [(iv .i64 1)]) (out := [(iv .i64 1)]) (tl32 H) (mv rfl) (Ce.one (Ev.const _) (One.eqv rfl)) rfl rfl (Nat.le_of_ble_eq_true rfl) rfl ?_)
                  refine rn ?_
                  exact AtX.to (hJ158 1 h) [0, 1, 2, 3] trivial (ol rfl) rfl
                · rw [if_neg (bne_true c159)] at h
                  refine CodeT.skip ?_
                  exact AtX.to (hJ158 v152 h) [0, 1, 2, 3] trivial (ol rfl) rfl
            · rw [if_neg (bne_true c154)] at h
              refine CodeT.exit ?_
              refine AtX.then_exit ?_
              refine AtX.then_exit ?_
              refine AtX.in_hit ?_
              exact AtX.to (hJ136 v152 h) [0, 1, 2] (sl rfl) (ol rfl) rfl
      · rw [if_neg (bne_true c129)] at h
        refine CodeT.exit ?_
        refine AtX.then_exit ?_
        refine AtX.then_exit ?_
        refine AtX.in_hit ?_
        exact AtX.to (hJ21 v127 h) [0, 1] (sl rfl) (ol rfl) rfl
theorem ref09_washes_ok {P : Program} (H : P = Try.prog) (φ : Nat) (v1 : (List Wash)) (r : (Int)) (h : ref09_washes φ v1 = some r) : PureT P 39 [(ro eWash 3 v1)] (fun x news => x = (iv .i64 r) ∧ news = []) := by
  unfold ref09_washes at h
  refine PureT.of_code' 57 (fn39 H) rfl rfl (Nat.le_of_ble_eq_true rfl) fun w0 base r0 wI => ?_
  refine cl [0] [] rfl rfl rfl ?_
  refine cs (cr [0] rfl ?_)
  refine cq rfl rfl rfl (opAssign (Ev.const _)) ?_
  refine rn (al [0] [] rfl rfl rfl (sq (cs (cr [0, 1] rfl ?_))))
  refine ckE h fun h2 h => ?_
  refine RunOps.cons rfl rfl rfl (opMake (e := eB) false [.bool false] (sl44 H) lB (ze4 H) rfl rfl (Ev.const _) (Ev.const _) h2.1 h2.2.1 h2.2.2 fun sv3 => ?_)
  refine cq rfl rfl rfl (opAssign (mv rfl)) ?_
  refine rn (al [0, 3] [0] rfl rfl rfl (sq (cs (cs (cr [0] rfl ?_)))))
  refine cq rfl rfl rfl (opAssign (Ev.const _)) ?_
  refine rn (al [0, 3, 4] [0] rfl rfl rfl (sq ?_))
  refine CodeT.join (fun z : Unit => (ref09_washes_j4 φ)) r (fun z => ⟨Slots.of [], []⟩) (fun z h => ?_) (fun hJ4 => ?_)
  · replace h : (ref09_washes_j4 φ) = some r := h
    unfold ref09_washes_j4 at h
    refine al [] [] rfl rfl rfl ?_
    refine sq (cs (cr [0] rfl ?_))
    refine cq rfl rfl rfl (opAssign (Ev.const _)) ?_
    refine rn (al [2] [] rfl rfl rfl (sq ?_))
    refine CodeT.ret ?_
    refine AtX.ret' (iv .i64 0) (ResOK.one Try.results39 rfl) [] [] trivial rfl ?_
    obtain rfl := Option.some.inj h
    exact ⟨rfl, rfl⟩
  · refine CodeT.block ?_
    refine CodeT.to (CodeT.loop (fun n (z : Int × (List Bool)) => ref09_washes_L7 φ v1 (ref09_washes_j4 φ) n z.1 z.2) r (fun z => ⟨Slots.of [(0, (ro eWash 3 v1)), (3, (eqv sv3)), (4, (iv .i64 z.1))], [(row 4 eB 1 z.2 sv3)]⟩) (fun z => rfl) (fun n7 z ih7 h => ?_) φ (0, (List.replicate (4096 : Int).toNat false)) h) [0] (sl rfl) (ol rfl) rfl
    obtain ⟨v5, v6⟩ := z
    replace h : ref09_washes_L7 φ v1 (ref09_washes_j4 φ) (n7 + 1) v5 v6 = some r := h
    rw [ref09_washes_L7] at h
    refine cs (cs (cr [0, 1, 2, 3] rfl ?_))
    refine cq rfl rfl rfl (opMove (mv rfl)) ?_
    refine cq rfl rfl rfl (opMove (mv rfl)) ?_
    refine cq rfl rfl rfl (opLenR (il25 H) (mv rfl)) ?_
    refine cq rfl rfl rfl (opLss (mv rfl) (mv rfl)) ?_
    refine rn (al [0, 3, 4, 10] [0] rfl rfl rfl (sq ?_))
    refine CodeT.cond (decide (v5 < (v1.length : Int))) (evBool (mv rfl)) (fun c8 => ?_) (fun c8 => ?_)
    · rw [if_pos c8] at h
      refine CodeT.skip ?_
      refine al [0, 3, 4] [0] rfl rfl rfl ?_
      refine sq (cs ?_)
      refine CodeT.block ?_
      refine cs (cr [0, 1, 2, 3, 4, 5] rfl ?_)
      refine cq rfl rfl rfl (opMove (mv rfl)) ?_
      refine cq rfl rfl rfl (opMove (mv rfl)) ?_
      refine ckE h fun h9 h => ?_
      refine cq rfl rfl rfl (opIndexR (e := eWash) (y := (gt v1 v5)) (ix25 H) (mv rfl) (mv rfl) (h9).1 (gt_some h9)) ?_
      refine RunOps.cons_q (agg (eWash (gt v1 v5))) rfl rfl rfl (opLoadN (tl86 H) (Pt.rop (mv rfl))) ?_
      refine RunOps.cons rfl rfl rfl (opAlloc [.int .i64 0, .int .i64 0, .int .i64 0] (ze86 H) rfl fun b10 => ?_)
      refine RunOps.cons rfl rfl rfl (opStore 1 (cells := [(iv .i64 0), (iv .i64 0), (iv .i64 0)]) (cs := (eWash (gt v1 v5))) (out := (eWash (gt v1 v5))) (tl86 H) (mv rfl) (Ce.agg (mv rfl)) rfl rfl (Nat.le_of_ble_eq_true rfl) rfl ?_)
      refine rn (al [0, 3, 4, 5] [0, 1] rfl rfl rfl (sq (cs (cs (cr [0, 1, 2, 3, 4, 5, 6, 7, 8, 9, 10, 11, 12, 13, 14, 15, 16, 17, 18, 19, 20, 21, 22] rfl ?_)))))
      refine cq rfl rfl rfl (opFieldP (fo86_0 H) (mv rfl)) ?_
      refine cq rfl rfl rfl (opLoad1 (tl3 H) ((Pt.box 1 (mv rfl) rfl rfl).take 1 (cs' := [(iv .i64 ((gt v1 v5).fFrom))]) rfl)) ?_
      refine bindE h fun y11 ey11 h => ?_
      refine cq rfl rfl rfl (opCallQ (fnok30 H) (args := [(iv .i64 ((gt v1 v5).fFrom)), (iv .i64 0), (iv .i64 63)]) ⟨EvF.of (mv rfl) FEnt.refl, EvF.of (Ev.const _) FEnt.refl, EvF.of (Ev.const _) FEnt.refl, trivial⟩ (ref09_within_ok H φ ((gt v1 v5).fFrom) 0 63 _ ey11) flat_eqv) ?_
      refine cq rfl rfl rfl (opNot (mv rfl)) ?_
      refine cq rfl rfl rfl (opMove (mv rfl)) ?_
      refine cg rfl rfl rfl rfl rfl (fun g12 => opFieldP (fo86_1 H) (mv rfl)) ?_
      refine cg rfl rfl rfl rfl rfl (fun g13 => opLoad1 (tl3 H) ((Pt.box 1 (Ev.cnd (mv rfl) g13) rfl rfl).take 1 (cs' := [(iv .i64 ((gt v1 v5).fTo))]) rfl)) ?_
      refine bindE h fun y15 ey15 h => ?_
      refine cg rfl rfl rfl rfl rfl (fun g14 => opCallQ (fnok30 H) (args := [(iv .i64 ((gt v1 v5).fTo)), (iv .i64 0), (iv .i64 63)]) ⟨EvF.of (Ev.cnd (mv rfl) g14) FEnt.refl, EvF.of (Ev.const _) FEnt.refl, EvF.of (Ev.const _) FEnt.refl, trivial⟩ (ref09_within_ok H φ ((gt v1 v5).fTo) 0 63 _ (gcall_pos ey15 g14)) flat_eqv) ?_
      refine cg rfl rfl rfl rfl rfl (fun g16 => opNot (Ev.cnd (mv rfl) g16)) ?_
      refine cq rfl rfl rfl (opOr (mv rfl) (Ev.const _) (fun g17 => (Ev.cnd (mv rfl) g17))) ?_
      refine cq rfl rfl rfl (opMove (mv rfl)) ?_
      refine cg rfl rfl rfl rfl rfl (fun g18 => opFieldP (fo86_0 H) (mv rfl)) ?_
      refine cg rfl rfl rfl rfl rfl (fun g19 => opLoad1 (tl3 H) ((Pt.box 1 (Ev.cnd (mv rfl) g19) rfl rfl).take 1 (cs' := [(iv .i64 ((gt v1 v5).fFrom))]) rfl)) ?_
      refine cg rfl rfl rfl rfl rfl (fun g20 => opFieldP (fo86_1 H) (mv rfl)) ?_
      refine cg rfl rfl rfl rfl rfl (fun g21 => opLoad1 (tl3 H) ((Pt.box 1 (Ev.cnd (mv rfl) g21) rfl rfl).take 1 (cs' := [(iv .i64 ((gt v1 v5).fTo))]) rfl)) ?_
      refine cg rfl rfl rfl rfl rfl (fun g22 => opEql (Ev.cnd (mv rfl) g22) (Ev.cnd (mv rfl) g22)) ?_
      refine cq rfl rfl rfl (opOr (mv rfl) (Ev.const _) (fun g23 => (Ev.cnd (mv rfl) g23))) ?_
      refine cq rfl rfl rfl (opMove (mv rfl)) ?_
      refine cg rfl rfl rfl rfl rfl (fun g24 => opFieldP (fo86_2 H) (mv rfl)) ?_
      refine cg rfl rfl rfl rfl rfl (fun g25 => opLoad1 (tl3 H) ((Pt.box 1 (Ev.cnd (mv rfl) g25) rfl rfl).take 1 (cs' := [(iv .i64 ((gt v1 v5).fMinutes))]) rfl)) ?_
      refine bindE h fun y27 ey27 h => ?_
      refine cg rfl rfl rfl rfl rfl (fun g26 => opCallQ (fnok30 H) (args := [(iv .i64 ((gt v1 v5).fMinutes)), (iv .i64 0), (iv .i64 100000)]) ⟨EvF.of (Ev.cnd (mv rfl) g26) FEnt.refl, EvF.of (Ev.const _) FEnt.refl, EvF.of (Ev.const _) FEnt.refl, trivial⟩ (ref09_within_ok H φ ((gt v1 v5).fMinutes) 0 100000 _ (gcall_pos ey27 g26)) flat_eqv) ?_
      refine cg rfl rfl rfl rfl rfl (fun g28 => opNot (Ev.cnd (mv rfl) g28)) ?_
      refine cq rfl rfl rfl (opOr (mv rfl) (Ev.const _) (fun g29 => (Ev.cnd (mv rfl) g29))) ?_
      refine rn (al [0, 3, 4, 5, 39] [0, 1] rfl rfl rfl (sq ?_))
      refine CodeT.cond ((((!y11) || (!y15)) || ((gt v1 v5).fFrom == (gt v1 v5).fTo)) || (!y27)) (evBool (mv rfl)) (fun c30 => ?_) (fun c30 => ?_)
      · rw [if_pos c30] at h
        refine cs (cr [0] rfl ?_)
        refine cq rfl rfl rfl (opAssign (Ev.const _)) ?_
        refine rn (al [2] [] rfl rfl rfl (sq ?_))
        refine CodeT.ret ?_
        refine AtX.then_ret ?_
        refine AtX.in_ret ?_
        refine AtX.then_ret ?_
        refine AtX.then_ret ?_
        refine AtX.in_ret ?_
        refine AtX.then_ret ?_
        refine AtX.ret' (iv .i64 1) (ResOK.one Try.results39 rfl) [] [] trivial rfl ?_
        obtain rfl := Option.some.inj h
        exact ⟨rfl, rfl⟩
      · rw [if_neg (bne_true c30)] at h
        refine CodeT.skip ?_
        refine AtX.le' [(0, (ro eWash 3 v1)), (3, (eqv sv3)), (4, (iv .i64 v5)), (5, (eqv (.pointer (some ⟨b10, 0, none⟩))))] [0, 1] [(row 4 eB 1 v6 sv3), (box b10 86 (eWash (gt v1 v5)))] ⟨⟨_, rfl, Ent.refl⟩, ⟨_, rfl, Ent.refl⟩, ⟨_, rfl, Ent.refl⟩, ⟨_, rfl, Ent.refl⟩, trivial⟩ ⟨⟨_, rfl, EntH.refl⟩, ⟨_, rfl, EntH.refl⟩, trivial⟩ rfl ?_
        refine AtX.seq ?_
        refine CodeT.seq ?_
        refine CodeT.seq ?_
        refine CodeT.region' [0, 1, 2, 3, 4, 5, 6, 7, 8] rfl ?_
        refine RunOps.cons_q (eqv sv3) rfl rfl rfl (opMove (Ev.tmp rfl)) ?_
        refine RunOps.cons_q (eqv (.pointer (some ⟨b10, 0, none⟩))) rfl rfl rfl (opFieldP (fo86_0 H) (Ev.tmp rfl)) ?_
        refine RunOps.cons_q (iv .i64 ((gt v1 v5).fFrom)) rfl rfl rfl (opLoad1 (tl3 H) ((Pt.box 1 (Ev.tmp rfl) rfl rfl).take 1 (cs' := [(iv .i64 ((gt v1 v5).fFrom))]) rfl)) ?_
        refine RunOps.cons_q (iv .i64 (W (64 * ((gt v1 v5).fFrom)))) rfl rfl rfl (opMul (Ev.const _) (Ev.tmp rfl)) ?_
        refine RunOps.cons_q (eqv (.pointer (some ⟨b10, 1, none⟩))) rfl rfl rfl (opFieldP (fo86_1 H) (Ev.tmp rfl)) ?_
        refine RunOps.cons_q (iv .i64 ((gt v1 v5).fTo)) rfl rfl rfl (opLoad1 (tl3 H) ((Pt.box 1 (Ev.tmp rfl) rfl rfl).take 1 (cs' := [(iv .i64 ((gt v1 v5).fTo))]) rfl)) ?_
        refine RunOps.cons_q (iv .i64 (W ((W (64 * ((gt v1 v5).fFrom))) + ((gt v1 v5).fTo)))) rfl rfl rfl (opAdd (Ev.tmp rfl) (Ev.tmp rfl)) ?_
        refine ckE h fun h31 h => ?_
        refine RunOps.cons_q (rowp sv3 (((W ((W (64 * ((gt v1 v5).fFrom))) + ((gt v1 v5).fTo))) : Int).toNat * 1)) rfl rfl rfl (opIndexO 0 (ix44 H) (Ev.tmp rfl) rfl (Ev.tmp rfl) (h31).1 (h31).2) ?_
        refine RunOps.cons_q (bv (gt v6 (W ((W (64 * ((gt v1 v5).fFrom))) + ((gt v1 v5).fTo))))) rfl rfl rfl (opLoad1 (tl4 H) ((Pt.row _ 0 (k := ((W ((W (64 * ((gt v1 v5).fFrom))) + ((gt v1 v5).fTo))) : Int).toNat) (fo := 0) lB (Ev.tmp rfl) rfl (by omega) (gt_some h31) rfl).take 1 (cs' := [(bv (gt v6 (W ((W (64 * ((gt v1 v5).fFrom))) + ((gt v1 v5).fTo)))))]) rfl)) ?_
        refine rn (al [0, 3, 4, 5, 48] [0, 1] rfl rfl rfl (sq ?_))
        refine CodeT.cond (gt v6 (W ((W (64 * ((gt v1 v5).fFrom))) + ((gt v1 v5).fTo)))) (evBool (mv rfl)) (fun c32 => ?_) (fun c32 => ?_)
        · rw [if_pos c32] at h
          refine cs (cr [0] rfl ?_)
          refine cq rfl rfl rfl (opAssign (Ev.const _)) ?_
          refine rn (al [2] [] rfl rfl rfl (sq ?_))
          refine CodeT.ret ?_
          refine AtX.then_ret ?_
          refine AtX.in_ret ?_
          refine AtX.then_ret ?_
          refine AtX.then_ret ?_
          refine AtX.in_ret ?_
          refine AtX.then_ret ?_
          refine AtX.ret' (iv .i64 1) (ResOK.one Try.results39 rfl) [] [] trivial rfl ?_
          obtain rfl := Option.some.inj h
          exact ⟨rfl, rfl⟩
        · rw [if_neg (bne_true c32)] at h
          refine CodeT.skip ?_
          refine AtX.le' [(0, (ro eWash 3 v1)), (3, (eqv sv3)), (4, (iv .i64 v5)), (5, (eqv (.pointer (some ⟨b10, 0, none⟩))))] [0, 1] [(row 4 eB 1 v6 sv3), (box b10 86 (eWash (gt v1 v5)))] ⟨⟨_, rfl, Ent.refl⟩, ⟨_, rfl, Ent.refl⟩, ⟨_, rfl, Ent.refl⟩, ⟨_, rfl, Ent.refl⟩, trivial⟩ ⟨⟨_, rfl, EntH.refl⟩, ⟨_, rfl, EntH.refl⟩, trivial⟩ rfl ?_
          refine AtX.seq ?_
          refine CodeT.region' [0, 1, 2, 3, 4, 5, 6, 7, 8] rfl ?_
          refine RunOps.cons_q (eqv sv3) rfl rfl rfl (opMove (Ev.tmp rfl)) ?_
          refine RunOps.cons_q (eqv (.pointer (some ⟨b10, 0, none⟩))) rfl rfl rfl (opFieldP (fo86_0 H) (Ev.tmp rfl)) ?_
          refine RunOps.cons_q (iv .i64 ((gt v1 v5).fFrom)) rfl rfl rfl (opLoad1 (tl3 H) ((Pt.box 1 (Ev.tmp rfl) rfl rfl).take 1 (cs' := [(iv .i64 ((gt v1 v5).fFrom))]) rfl)) ?_
          refine RunOps.cons_q (iv .i64 (W (64 * ((gt v1 v5).fFrom)))) rfl rfl rfl (opMul (Ev.const _) (Ev.tmp rfl)) ?_
          refine RunOps.cons_q (eqv (.pointer (some ⟨b10, 1, none⟩))) rfl rfl rfl (opFieldP (fo86_1 H) (Ev.tmp rfl)) ?_
          refine RunOps.cons_q (iv .i64 ((gt v1 v5).fTo)) rfl rfl rfl (opLoad1 (tl3 H) ((Pt.box 1 (Ev.tmp rfl) rfl rfl).take 1 (cs' := [(iv .i64 ((gt v1 v5).fTo))]) rfl)) ?_
          refine RunOps.cons_q (iv .i64 (W ((W (64 * ((gt v1 v5).fFrom))) + ((gt v1 v5).fTo)))) rfl rfl rfl (opAdd (Ev.tmp rfl) (Ev.tmp rfl)) ?_
          refine RunOps.cons_q (rowp sv3 (((W ((W (64 * ((gt v1 v5).fFrom))) + ((gt v1 v5).fTo))) : Int).toNat * 1)) rfl rfl rfl (opIndexO 0 (ix44 H) (Ev.tmp rfl) rfl (Ev.tmp rfl) (h31).1 (h31).2) ?_
          refine RunOps.cons rfl rfl rfl (opStoreO 0 (k := ((W ((W (64 * ((gt v1 v5).fFrom))) + ((gt v1 v5).fTo))) : Int).toNat) (fo := 0) (z' := true) (cs := [(bv true)]) lB (tl4 H) (Ev.tmp rfl) (Ce.one (Ev.const _) (One.eqv rfl)) rfl rfl (by omega) (gt_some h31) (Nat.le_of_ble_eq_true rfl) rfl ?_)
          refine rn ?_
          refine AtX.in_normal ?_
          refine al [0, 3, 4] [0] rfl rfl rfl ?_
          refine sq (cr [0, 1, 2] rfl ?_)
          refine cq rfl rfl rfl (opMove (mv rfl)) ?_
          refine cq rfl rfl rfl (opAdd (mv rfl) (Ev.const _)) ?_
          refine cq rfl rfl rfl (opAssign (mv rfl)) ?_
          refine rn ?_
          exact AtX.to (ih7 ((W (v5 + 1)), (setAt v6 (W ((W (64 * ((gt v1 v5).fFrom))) + ((gt v1 v5).fTo))) true)) h) [0] (sl rfl) (ol rfl) rfl
    · rw [if_neg (bne_true c8)] at h
      refine CodeT.exit ?_
      refine AtX.then_exit ?_
      refine AtX.then_exit ?_
      refine AtX.in_hit ?_
      exact AtX.to (hJ4 () h) [] trivial trivial rfl
end Px
