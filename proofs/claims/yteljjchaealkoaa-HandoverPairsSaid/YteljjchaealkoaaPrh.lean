/- A part of the proof of handoverPairs_holds. Conditions: none. -/
import Derived.Test.YteljjchaealkoaaPrg
import Derived.Test.YteljjchaealkoaaRows
import Derived.WalkKit
section
set_option maxRecDepth 100000
set_option linter.unusedVariables false
set_option linter.unusedSimpArgs false
namespace Go.Proofs.Yteljjchaealkoaa
open Px Go.ChangeShapes Go.WideShapes Go.ChangeAt Go.RowKit
theorem own : ownKnob Try.prog.godebug = none := by kernel_rfl
theorem handoverPairs_lifted (os : Os) (started : os.Started) (H : Type) (enc : TypeId × Value → H) :
    ReturnsInHanded {} Try.checked os 6 .any (Rows.handoverPairsSpec.pre6 enc Try.prog Try.f6 Rows.handoverPairsRow.domain false) (Rows.handoverPairsSpec.post enc Try.prog Try.f6 false true false false) := by
  refine returnsInHanded_of_change (C := Try.checked) own started (by kernel_rfl) Try.func6
    (ChangeSpec.witness6 (enc := enc) (C := Try.checked) false ⟨#[], #[.agg #[.slice none 0 0, .slice none 0 0, .slice none 0 0, .slice none 0 0, .slice none 0 0, .slice none 0 0, .slice none 0 0, .slice none 0 0, .slice none 0 0], .slice none 0 0], []⟩ 8 (by kernel_rfl) (by kernel_rfl) (by kernel_rfl) (by kernel_rfl)) ?_
  intro W base args ds gs before hval0 hW hcnd _
  have hval : ∀ (j : Nat) t v, Try.f6.params[j]? = some t → args[j]? = some v → Value.okWide Try.prog W .any base t v := hval0
  have hW' := hW
  obtain ⟨p, q, hA0, hV, rfl, hfz, hnd⟩ := hW
  have hA : DataW.TrodAll enc Try.prog W 0 (fun _ => true) true Try.f6.params.toList args.toList ds p := hA0
  rw [Try.params6] at hA hval
  obtain ⟨v0, vs0, d0, ds0, p0, q0, hargs, rfl, rfl, h0, r0⟩ := trodAll_cons hA
  obtain ⟨v1, vs1, d1, ds1, p1, q1, rfl, rfl, rfl, h1, r1⟩ := trodAll_cons r0
  obtain ⟨rfl, rfl, rfl⟩ := trodAll_nil r1
  obtain rfl : args = #[v0, v1] := by cases args; simp_all
  obtain ⟨rfl, rfl⟩ := trodVars_none hV
  obtain ⟨x0, R0, k0⟩ := zub (by kernel_rfl) (zu7 rfl) (hval 0 36 v0 rfl rfl) h0
  obtain ⟨x1, R1, k1⟩ := zwx (by kernel_rfl) (Opn.slice (ou37 rfl) (oc48 rfl) (by decide) (zpg rfl)) (hval 1 37 v1 rfl rfl) h1
  obtain ⟨φ, hφ⟩ := zfa x0 x1 R0 R1
  clear hA0 hval0
  refine (zq2 (zd3 rfl φ x0 x1 true hφ) rfl ?_).mono fun e W' ⟨he, hb⟩ => ?_
  · intro i A hi
    match i, hi with
    | 0, hi => cases hi; exact k0
    | 1, hi => cases hi; exact k1
    | i + 2, hi => simp at hi
  subst he
  exact ⟨_, rfl, zqo hW' rfl rfl rfl rfl (by kernel_rfl) Try.underlying4 (by kernel_rfl) (by rw [Try.params6]; decide) hb⟩
theorem handoverPairs_holds : Rows.HandoverPairsSaid :=
  OpenClaim.holds_of_wide 6 Try.f6 rfl rfl rfl rfl rfl rfl rfl ⟨rfl, rfl, rfl, rfl, rfl⟩ rfl rfl rfl rfl rfl (by kernel_rfl) Try.func6 (by kernel_rfl)
    (of_decide_eq_true (by kernel_rfl)) (by unfold Func.isWrapper; first | (rw [if_pos (by decide +kernel)]; kernel_rfl) | (rw [if_neg (by decide +kernel)]; exact ⟨rfl, rfl⟩))
    (fun os started H enc _ => handoverPairs_lifted os started H enc)
end Go.Proofs.Yteljjchaealkoaa
end
