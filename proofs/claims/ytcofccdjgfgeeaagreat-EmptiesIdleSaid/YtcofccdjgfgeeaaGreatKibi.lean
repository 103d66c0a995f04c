/- A part of the proof of emptiesIdle_holds. Conditions: none. -/
import Derived.Test.YtcofccdjgfgeeaaGreatKibh
import Derived.Test.YtcofccdjgfgeeaaGreatRows
import Derived.WalkKit
set_option linter.unusedVariables false
set_option linter.unusedSimpArgs false
section
set_option maxRecDepth 100000
namespace Go.Proofs.YtcofccdjgfgeeaaGreat
open Px Go.ChangeShapes Go.WideShapes Go.ChangeAt Go.RowKit
theorem own:ownKnob Tryz.prog.godebug=none:=by kernel_rfl
theorem emptiesIdle_lifted(os:Os)(started:os.Started)(H:Type)(enc:TypeId×Value->H):
  ReturnsInHanded {} Tryz.checked os 5 .any (Rows.emptiesIdleSpec.pre6 enc Tryz.prog Tryz.f5 Rows.emptiesIdleRow.domain false) (Rows.emptiesIdleSpec.post enc Tryz.prog Tryz.f5 false true false false):=by
 refine returnsInHanded_of_change (C:=Tryz.checked) own started (by kernel_rfl) Tryz.func5
  (ChangeSpec.witness6 (enc:=enc) (C:=Tryz.checked) false ⟨#[],#[.agg #[.slice none 0 0,.slice none 0 0,.slice none 0 0,.slice none 0 0,.slice none 0 0,.slice none 0 0,.slice none 0 0,.slice none 0 0,.slice none 0 0],.slice none 0 0,.int .i64 0],[]⟩ 8 (by kernel_rfl) (by kernel_rfl) (by kernel_rfl) (by kernel_rfl)) ?_
 intro W base args ds gs before hval0 hW hcnd _;have hval:∀(j:Nat)t v,Tryz.f5.params[j]? = some t->args[j]? = some v->Value.okWide Tryz.prog W .any base t v:=hval0;have hW':=hW;obtain⟨p,q,hA0,hV,rfl,hfz,hnd⟩:=hW;have hA:DataW.TrodAll enc Tryz.prog W 0 (λ_=>true) true Tryz.f5.params.toList args.toList ds p:=hA0;rw[Tryz.params5] at hA hval;obtain⟨hl,x,hx,hxs⟩:=y2j (V:=TV) (n:=30) (cs:=[28,54,0]) (by kernel_rfl) hA (λj t v ht hv=>hval j t v (by simpa using ht) (by simpa using hv));have hdl:=zq0 hA;obtain⟨d0,d1,d2,rfl⟩:∃d0 d1 d2,ds = [d0,d1,d2]:=by
  match ds,hdl with
  | [d0,d1,d2],_=>exact⟨d0,d1,d2,rfl⟩
 obtain⟨rfl,rfl⟩:=trodVars_none hV;obtain⟨φ,hφ⟩:=zmk x hx;clear hA0 hval0;refine(yfm (V:=TV) (zhz φ) hφ (λ_=>rfl) rfl hl hxs).mono λe W' ⟨he,hb⟩=>?_
 subst he;exact⟨_,rfl,ya2 hW' rfl rfl rfl rfl (by kernel_rfl) Tryz.underlying4 (by kernel_rfl) (by rw[Tryz.params5];decide) hb⟩
theorem emptiesIdle_holds:Rows.EmptiesIdleSaid:=
 OpenClaim.holds_of_wide 5 Tryz.f5 rfl rfl rfl rfl rfl rfl rfl ⟨rfl,rfl,rfl,rfl,rfl⟩ rfl rfl rfl rfl rfl (by kernel_rfl) Tryz.func5 (by kernel_rfl)
  (of_decide_eq_true (by kernel_rfl)) (by unfold Func.isWrapper;first |(rw[if_pos (by decide+kernel)];kernel_rfl) |(rw[if_neg (by decide+kernel)];exact⟨rfl,rfl⟩))
  (λos started H enc _=>emptiesIdle_lifted os started H enc)
end Go.Proofs.YtcofccdjgfgeeaaGreat
end
