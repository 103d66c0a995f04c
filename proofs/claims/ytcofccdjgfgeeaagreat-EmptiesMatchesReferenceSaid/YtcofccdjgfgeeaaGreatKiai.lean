/- A part of the proof of emptiesMatchesReference_holds. Conditions: none. -/
import Derived.Test.YtcofccdjgfgeeaaGreatKiah
import Derived.Test.YtcofccdjgfgeeaaGreatRows
import Derived.WalkKit
set_option linter.unusedVariables false
set_option linter.unusedSimpArgs false
section
set_option maxRecDepth 100000
namespace Go.Proofs.YtcofccdjgfgeeaaGreat
open Px Go.ChangeShapes Go.WideShapes Go.ChangeAt Go.RowKit
theorem own:ownKnob Tryz.prog.godebug=none:=by kernel_rfl
theorem emptiesMatchesReference_lifted(os:Os)(f:os.Started)(H:Type)(enc:TypeId×Value->H):
  ReturnsInHanded {} Tryz.checked os 4 .any (Rows.emptiesMatchesReferenceSpec.pre6 enc Tryz.prog Tryz.f4 Rows.emptiesMatchesReferenceRow.domain false) (Rows.emptiesMatchesReferenceSpec.post enc Tryz.prog Tryz.f4 false true false false):=by
 refine returnsInHanded_of_change (C:=Tryz.checked) own f (by kernel_rfl) Tryz.func4
  (ChangeSpec.witness6 (enc:=enc) (C:=Tryz.checked) false ⟨#[],#[.agg #[.slice none 0 0,.slice none 0 0,.slice none 0 0,.slice none 0 0,.slice none 0 0,.slice none 0 0,.slice none 0 0,.slice none 0 0,.slice none 0 0],.slice none 0 0,.int .i64 0,.slice none 0 0,.slice none 0 0],[]⟩ 8 (by kernel_rfl) (by kernel_rfl) (by kernel_rfl) (by kernel_rfl)) ?_
 intro W base args ds gs before d hW a3 _;have g:∀(j:Nat)t v,Tryz.f4.params[j]? = some t->args[j]? = some v->Value.okWide Tryz.prog W .any base t v:=d;have a0:=hW;obtain⟨p,q,h,hV,rfl,a4,a5⟩:=hW;have hA:DataW.TrodAll enc Tryz.prog W 0 (λ_=>true) true Tryz.f4.params.toList args.toList ds p:=h;rw[Tryz.params4] at hA g;obtain⟨hl,x,hx,a2⟩:=y7w (V:=TV) (n:=30) (cs:=[28,54,0,36,37]) (by kernel_rfl) hA (λj t v ht hv=>g j t v (by simpa using ht) (by simpa using hv));have a1:=zr2 hA;obtain⟨u,z,d2,d3,d4,rfl⟩:∃u z d2 d3 d4,ds = [u,z,d2,d3,d4]:=by
  match ds,a1 with
  | [u,z,d2,d3,d4],_=>exact⟨u,z,d2,d3,d4,rfl⟩
 obtain⟨rfl,rfl⟩:=trodVars_none hV;obtain⟨φ,hφ⟩:=zb3 x hx;clear h d;refine(yl7 (V:=TV) (z9s φ) hφ (λ_=>rfl) rfl hl a2).mono λe W' ⟨he,hb⟩=>?_
 subst he;exact⟨_,rfl,yew a0 rfl rfl rfl rfl (by kernel_rfl) Tryz.underlying4 (by kernel_rfl) (by rw[Tryz.params4];decide) hb⟩
theorem emptiesMatchesReference_holds:Rows.EmptiesMatchesReferenceSaid:=
 OpenClaim.holds_of_wide 4 Tryz.f4 rfl rfl rfl rfl rfl rfl rfl ⟨rfl,rfl,rfl,rfl,rfl⟩ rfl rfl rfl rfl rfl (by kernel_rfl) Tryz.func4 (by kernel_rfl)
  (of_decide_eq_true (by kernel_rfl)) (by unfold Func.isWrapper;first |(rw[if_pos (by decide+kernel)];kernel_rfl) |(rw[if_neg (by decide+kernel)];exact⟨rfl,rfl⟩))
  (λos started H enc _=>emptiesMatchesReference_lifted os started H enc)
end Go.Proofs.YtcofccdjgfgeeaaGreat
end
