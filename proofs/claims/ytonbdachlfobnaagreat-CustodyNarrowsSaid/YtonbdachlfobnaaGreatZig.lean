/- A part of the proof of custodyNarrows_holds. Conditions: none. -/
import Derived.Test.YtonbdachlfobnaaGreatZif
import Derived.Test.YtonbdachlfobnaaGreatRows
import Derived.WalkKit
section
set_option maxRecDepth 100000
set_option linter.unusedVariables false
set_option linter.unusedSimpArgs false
namespace Go.Proofs.YtonbdachlfobnaaGreat
open Px Go.ChangeShapes Go.WideShapes Go.ChangeAt Go.RowKit
theorem own : ownKnob Tryz.prog.godebug = none := by kernel_rfl
theorem custodyNarrows_lifted (os : Os) (started : os.Started) (H : Type) (enc : TypeId × Value -> H) :
  ReturnsInHanded {} Tryz.checked os 8 .any (Rows.custodyNarrowsSpec.pre6 enc Tryz.prog Tryz.f8 Rows.custodyNarrowsRow.domain false) (Rows.custodyNarrowsSpec.post enc Tryz.prog Tryz.f8 false true false false) := by
 refine returnsInHanded_of_change_sized (C := Tryz.checked) own started (by kernel_rfl) Tryz.func8
  (ChangeSpec.witness6 (enc := enc) (C := Tryz.checked) false ⟨#[], #[.agg #[.slice none 0 0, .slice none 0 0, .slice none 0 0, .slice none 0 0, .slice none 0 0, .slice none 0 0, .slice none 0 0, .slice none 0 0, .slice none 0 0], .slice none 0 0, .agg #[.int .i64 0, .int .i64 0, .int .i64 0, .int .i64 0, .int .i64 0, .int .i64 0, .int .i64 0, .int .i64 0, .int .i64 0, .int .i64 0, .int .i64 0, .int .i64 0, .int .i64 0, .int .i64 0, .int .i64 0, .int .i64 0, .int .i64 0, .int .i64 0, .int .i64 0, .string ⟨#[]⟩, .slice none 0 0], .int .i64 0, .int .i64 0], []⟩ 8 (by kernel_rfl) (by kernel_rfl) (by kernel_rfl) (by kernel_rfl)) ?_
 intro W base args ds gs before hval0 hW hcnd hsz0 _
 have hval : ∀ (j : Nat) t v, Tryz.f8.params[j]? = some t -> args[j]? = some v -> Value.okWide Tryz.prog W .any base t v := hval0
 have hW' := hW
 obtain ⟨p, q, hA0, hV, rfl, hfz, hnd⟩ := hW
 have hA : DataW.TrodAll enc Tryz.prog W 0 (fun _ => true) true Tryz.f8.params.toList args.toList ds p := hA0
 rw [Tryz.params8] at hA hval
 obtain ⟨hl, x, hx, hxs⟩ := zxl (V := TV) (n := 30) (cs := [35, 38, 10, 0, 0]) (by kernel_rfl) hA (fun j t v ht hv => hval j t v (by simpa using ht) (by simpa using hv))
 have hdl := zkg hA
 obtain ⟨d0, d1, d2, d3, d4, rfl⟩ : ∃ d0 d1 d2 d3 d4, ds = [d0, d1, d2, d3, d4] := by
  match ds, hdl with
  | [d0, d1, d2, d3, d4], _ => exact ⟨d0, d1, d2, d3, d4, rfl⟩
 obtain ⟨rfl, rfl⟩ := trodVars_none hV
 have hb0 : _ * 192 <= 140737488351232 := zvo hA (ts' := Rows.custodyNarrowsSpec.plain.varTypes Tryz.prog) (gs := []) (n := List.length x.2.1) (by have h := hsz0; rw [Tryz.params8] at h; exact h) (j := 1) (E := 83) rfl (by kernel_rfl) (by kernel_rfl) (by
  rcases hxs 1 _ rfl with ⟨⟨a, cap, h⟩, h2⟩ | ⟨b, o, cap, h, _⟩
  ·exact ⟨a, cap, by rw [h]; exact congrArg (fun n => Value.slice a n cap) (congrArg List.length h2).symm⟩
  ·exact ⟨_, _, h⟩)
 obtain ⟨φ, hφ⟩ := zep x hx hb0
 clear hA0 hval0
 refine (ybr (V := TV) (zc1 φ) hφ (fun _ => rfl) rfl hl hxs).mono fun e W' ⟨he, hb⟩ => ?_
 subst he
 exact ⟨_, rfl, y3z hW' rfl rfl rfl rfl (by kernel_rfl) Tryz.underlying4 (by kernel_rfl) (by rw [Tryz.params8]; decide) hb⟩
theorem custodyNarrows_holds : Rows.CustodyNarrowsSaid :=
 OpenClaim.holds_of_wide 8 Tryz.f8 rfl rfl rfl rfl rfl rfl rfl ⟨rfl, rfl, rfl, rfl, rfl⟩ rfl rfl rfl rfl rfl (by kernel_rfl) Tryz.func8 (by kernel_rfl)
  (of_decide_eq_true (by kernel_rfl)) (by unfold Func.isWrapper; first | (rw [if_pos (by decide +kernel)]; kernel_rfl) | (rw [if_neg (by decide +kernel)]; exact ⟨rfl, rfl⟩))
  (fun os started H enc _ => custodyNarrows_lifted os started H enc)
end Go.Proofs.YtonbdachlfobnaaGreat
end
