/- A part of the proof of handoverOrder_holds. Conditions: none. -/
import Derived.Test.YteljjchaealkoaaOrg
import Derived.Test.YteljjchaealkoaaRows
import Derived.WalkKit
section
set_option maxRecDepth 100000
set_option linter.unusedVariables false
set_option linter.unusedSimpArgs false
namespace Go.Proofs.Yteljjchaealkoaa
open Px Go.ChangeShapes Go.WideShapes Go.ChangeAt Go.RowKit
theorem own : ownKnob Try.prog.godebug = none := by kernel_rfl
theorem handoverOrder_lifted (os : Os) (started : os.Started) (H : Type) (enc : TypeId × Value → H) :
    ReturnsInHanded {} Try.checked os 3 .any (Rows.handoverOrderSpec.pre6 enc Try.prog Try.f3 Rows.handoverOrderRow.domain false) (Rows.handoverOrderSpec.post enc Try.prog Try.f3 false true false false) := by
  refine returnsInHanded_of_change (C := Try.checked) own started (by kernel_rfl) Try.func3
    (ChangeSpec.witness6 (enc := enc) (C := Try.checked) false ⟨#[], #[.agg #[.slice none 0 0, .slice none 0 0, .slice none 0 0, .slice none 0 0, .slice none 0 0, .slice none 0 0, .slice none 0 0, .slice none 0 0, .slice none 0 0], .slice none 0 0, .int .i64 0, .int .i64 0, .int .i64 0], []⟩ 8 (by kernel_rfl) (by kernel_rfl) (by kernel_rfl) (by kernel_rfl)) ?_
  intro W base args ds gs before hval0 hW hcnd _
  have hval : ∀ (j : Nat) t v, Try.f3.params[j]? = some t → args[j]? = some v → Value.okWide Try.prog W .any base t v := hval0
  have hW' := hW
  obtain ⟨p, q, hA0, hV, rfl, hfz, hnd⟩ := hW
  have hA : DataW.TrodAll enc Try.prog W 0 (fun _ => true) true Try.f3.params.toList args.toList ds p := hA0
  rw [Try.params3] at hA hval
  obtain ⟨v0, vs0, d0, ds0, p0, q0, hargs, rfl, rfl, h0, r0⟩ := trodAll_cons hA
  obtain ⟨v1, vs1, d1, ds1, p1, q1, rfl, rfl, rfl, h1, r1⟩ := trodAll_cons r0
  obtain ⟨v2, vs2, d2, ds2, p2, q2, rfl, rfl, rfl, h2, r2⟩ := trodAll_cons r1
  obtain ⟨v3, vs3, d3, ds3, p3, q3, rfl, rfl, rfl, h3, r3⟩ := trodAll_cons r2
  obtain ⟨v4, vs4, d4, ds4, p4, q4, rfl, rfl, rfl, h4, r4⟩ := trodAll_cons r3
  obtain ⟨rfl, rfl, rfl⟩ := trodAll_nil r4
  obtain rfl : args = #[v0, v1, v2, v3, v4] := by cases args; simp_all
  obtain ⟨rfl, rfl⟩ := trodVars_none hV
  obtain ⟨x0, R0, k0⟩ := zqd (by kernel_rfl) (zs1 rfl) (hval 0 36 v0 rfl rfl) h0
  obtain ⟨x1, R1, k1⟩ := zto (by kernel_rfl) (Opn.slice (ou37 rfl) (oc48 rfl) (by decide) (zlz rfl)) (hval 1 37 v1 rfl rfl) h1
  obtain ⟨x2, R2, k2⟩ := zjs (k := .i64) Try.underlying3 (hval 2 3 v2 rfl rfl) h2
  obtain ⟨x3, R3, k3⟩ := zjs (k := .i64) Try.underlying3 (hval 3 3 v3 rfl rfl) h3
  obtain ⟨x4, R4, k4⟩ := zjs (k := .i64) Try.underlying3 (hval 4 3 v4 rfl rfl) h4
  obtain ⟨φ, hφ⟩ := zd7 x0 x1 x2 x3 x4 R0 R1 R2 R3 R4
  clear hA0 hval0
  refine (zm1 (zau rfl φ x0 x1 x2 x3 x4 true hφ) rfl ?_).mono fun e W' ⟨he, hb⟩ => ?_
  · intro i A hi
    match i, hi with
    | 0, hi => cases hi; exact k0
    | 1, hi => cases hi; exact k1
    | 2, hi => cases hi; exact k2
    | 3, hi => cases hi; exact k3
    | 4, hi => cases hi; exact k4
    | i + 5, hi => simp at hi
  subst he
  exact ⟨_, rfl, zoo hW' rfl rfl rfl rfl (by kernel_rfl) Try.underlying4 (by kernel_rfl) (by rw [Try.params3]; decide) hb⟩
theorem handoverOrder_holds : Rows.HandoverOrderSaid :=
  OpenClaim.holds_of_wide 3 Try.f3 rfl rfl rfl rfl rfl rfl rfl ⟨rfl, rfl, rfl, rfl, rfl⟩ rfl rfl rfl rfl rfl (by kernel_rfl) Try.func3 (by kernel_rfl)
    (of_decide_eq_true (by kernel_rfl)) (by unfold Func.isWrapper; first | (rw [if_pos (by decide +kernel)]; kernel_rfl) | (rw [if_neg (by decide +kernel)]; exact ⟨rfl, rfl⟩))
    (fun os started H enc _ => handoverOrder_lifted os started H enc)
end Go.Proofs.Yteljjchaealkoaa
end
