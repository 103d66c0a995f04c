/- A part of the proof of topCheapest_holds. Conditions: none. -/
import Derived.Test.YtcofccdjgfgeeaaKtag
import Derived.Test.YtcofccdjgfgeeaaRows
import Derived.WalkKit
set_option linter.unusedVariables false
set_option linter.unusedSimpArgs false
section
set_option maxRecDepth 100000
namespace Go.Proofs.Ytcofccdjgfgeeaa
open Px Go.ChangeShapes Go.WideShapes Go.ChangeAt Go.RowKit
theorem own:ownKnob Try.prog.godebug=none:=by kernel_rfl
theorem topCheapest_lifted(os:Os)(started:os.Started)(H:Type)(enc:TypeId×Value->H):
  ReturnsInHanded {} Try.checked os 4 .any (Rows.topCheapestSpec.pre6 enc Try.prog Try.f4 Rows.topCheapestRow.domain false) (Rows.topCheapestSpec.post enc Try.prog Try.f4 false true false false):=by
 refine returnsInHanded_of_change (C:=Try.checked) own started (by kernel_rfl) Try.func4
  (ChangeSpec.witness6 (enc:=enc) (C:=Try.checked) false ⟨#[],#[.slice none 0 0,.int .i64 0,.slice none 0 0,.slice none 0 0,.slice none 0 0],[]⟩ 8 (by kernel_rfl) (by kernel_rfl) (by kernel_rfl) (by kernel_rfl)) ?_
 intro W base args ds gs before hval0 hW hcnd _;have hval:∀(j:Nat)t v,Try.f4.params[j]? = some t->args[j]? = some v->Value.okWide Try.prog W .any base t v:=hval0;have hW':=hW;obtain⟨p,q,hA0,hV,rfl,hfz,hnd⟩:=hW;have hA:DataW.TrodAll enc Try.prog W 0 (λ_=>true) true Try.f4.params.toList args.toList ds p:=hA0;rw[Try.params4] at hA hval;obtain⟨hl,x,hx,hxs⟩:=y0h (V:=TV) (n:=30) (cs:=[57,0,36,37,46]) (by kernel_rfl) hA (λj t v ht hv=>hval j t v (by simpa using ht) (by simpa using hv));have hdl:=znd hA;obtain⟨d0,d1,d2,d3,d4,rfl⟩:∃d0 d1 d2 d3 d4,ds = [d0,d1,d2,d3,d4]:=by
  match ds,hdl with
  | [d0,d1,d2,d3,d4],_=>exact⟨d0,d1,d2,d3,d4,rfl⟩
 obtain⟨rfl,rfl⟩:=trodVars_none hV;obtain⟨φ,hφ⟩:=zkp x hx;clear hA0 hval0;refine(yds (V:=TV) (ziv φ) hφ (λ_=>rfl) rfl hl hxs).mono λe W' ⟨he,hb⟩=>?_
 subst he;exact⟨_,rfl,y83 hW' rfl rfl rfl rfl (by kernel_rfl) Try.underlying4 (by kernel_rfl) (by rw[Try.params4];decide) hb⟩
theorem topCheapest_holds:Rows.TopCheapestSaid:=
 OpenClaim.holds_of_wide 4 Try.f4 rfl rfl rfl rfl rfl rfl rfl ⟨rfl,rfl,rfl,rfl,rfl⟩ rfl rfl rfl rfl rfl (by kernel_rfl) Try.func4 (by kernel_rfl)
  (of_decide_eq_true (by kernel_rfl)) (by unfold Func.isWrapper;first |(rw[if_pos (by decide+kernel)];kernel_rfl) |(rw[if_neg (by decide+kernel)];exact⟨rfl,rfl⟩))
  (λos started H enc _=>topCheapest_lifted os started H enc)
end Go.Proofs.Ytcofccdjgfgeeaa
end
