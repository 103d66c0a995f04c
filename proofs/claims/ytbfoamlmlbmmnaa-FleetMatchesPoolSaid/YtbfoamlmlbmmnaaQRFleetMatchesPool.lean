/- For all inputs the call of FleetMatchesPool returns true and leaves its arguments as they were. Conditions: none. -/
import Derived.Test.YtbfoamlmlbmmnaaQLFleetMatchesPool
import Derived.Test.YtbfoamlmlbmmnaaQo
import Derived.Test.YtbfoamlmlbmmnaaRp
import Derived.Test.YtbfoamlmlbmmnaaRows
import Derived.WalkKit
import Derived.OpenShut
set_option maxRecDepth 100000
set_option linter.unusedVariables false
set_option linter.unusedSimpArgs false
namespace Go.Proofs.Ytbfoamlmlbmmnaa
open Px Go.ChangeShapes Go.WideShapes Go.ChangeAt Go.RowKit
theorem own : ownKnob Try.prog.godebug = none := by kernel_rfl
theorem fleetMatchesPool_lifted (os : Os) (started : os.Started) (H : Type) (enc : TypeId × Value → H) :
    ReturnsInHanded {} Try.checked os 8 .any (Rows.fleetMatchesPoolSpec.pre6 enc Try.prog Try.f8 Rows.fleetMatchesPoolRow.domain false) (Rows.fleetMatchesPoolSpec.post enc Try.prog Try.f8 false true false false) := by
  refine returnsInHanded_of_change (C := Try.checked) own started (by kernel_rfl) Try.func8
    (ChangeSpec.witness6 (enc := enc) (C := Try.checked) false ⟨#[], #[.agg #[.slice none 0 0, .slice none 0 0, .slice none 0 0, .slice none 0 0, .slice none 0 0, .slice none 0 0, .slice none 0 0, .slice none 0 0, .slice none 0 0]], []⟩ 8 (by kernel_rfl) (by kernel_rfl) (by kernel_rfl) (by kernel_rfl)) ?_
  intro W base args ds gs before hval0 hW hcnd _
  have hval : ∀ (j : Nat) t v, Try.f8.params[j]? = some t → args[j]? = some v → Value.okWide Try.prog W .any base t v := hval0
  have hW' := hW
  obtain ⟨p, q, hA0, hV, rfl, hfz, hnd⟩ := hW
  have hA : DataW.TrodAll enc Try.prog W 0 (fun _ => true) true Try.f8.params.toList args.toList ds p := hA0
  rw [Try.params8] at hA hval
  obtain ⟨v0, vs0, d0, ds0, p0, q0, hargs, rfl, rfl, h0, r0⟩ := trodAll_cons hA
  obtain ⟨rfl, rfl, rfl⟩ := trodAll_nil r0
  obtain rfl : args = #[v0] := by cases args; simp_all
  obtain ⟨rfl, rfl⟩ := trodVars_none hV
  obtain ⟨x0, R0, k0⟩ := arg_agg (by kernel_rfl) (op_Pool rfl) (hval 0 61 v0 rfl rfl) h0
  obtain ⟨φ, hφ⟩ := fleetMatchesPool_true x0 R0
  clear hA0 hval0
  refine (law_calls (law09_FleetMatchesPool_ok rfl φ x0 true hφ) rfl ?_).mono fun e W' ⟨he, hb⟩ => ?_
  · intro i A hi
    match i, hi with
    | 0, hi => cases hi; exact k0
    | i + 1, hi => simp at hi
  subst he
  exact ⟨_, rfl, post_law hW' rfl rfl rfl rfl (by kernel_rfl) Try.underlying4 (by kernel_rfl) (by rw [Try.params8]; decide) hb⟩
theorem fleetMatchesPool_holds : Rows.FleetMatchesPoolSaid :=
  OpenClaim.holds_of_wide 8 Try.f8 rfl rfl rfl rfl rfl rfl rfl ⟨rfl, rfl, rfl, rfl, rfl⟩ rfl rfl rfl rfl rfl (by kernel_rfl) Try.func8 (by kernel_rfl)
    (of_decide_eq_true (by kernel_rfl)) (by unfold Func.isWrapper; first | (rw [if_pos (by decide +kernel)]; kernel_rfl) | (rw [if_neg (by decide +kernel)]; exact ⟨rfl, rfl⟩))
    (fun os started H enc _ => fleetMatchesPool_lifted os started H enc)
end Go.Proofs.Ytbfoamlmlbmmnaa
