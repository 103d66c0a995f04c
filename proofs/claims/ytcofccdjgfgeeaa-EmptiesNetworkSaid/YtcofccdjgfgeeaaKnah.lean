/- A part of the proof of emptiesNetwork_holds. Conditions: none. -/
import Derived.Test.YtcofccdjgfgeeaaKnag
import Derived.Test.YtcofccdjgfgeeaaRows
import Derived.WalkKit
set_option linter.unusedVariables false
set_option linter.unusedSimpArgs false
section
set_option maxRecDepth 100000
namespace Go.Proofs.Ytcofccdjgfgeeaa
open Px Go.ChangeShapes Go.WideShapes Go.ChangeAt Go.RowKit
theorem own:ownKnob Try.prog.godebug=none:=by kernel_rfl
theorem emptiesNetwork_lifted (os:Os) (started:os.Started) (H:Type) (enc:TypeId×Value->H) :
  ReturnsInHanded {} Try.checked os 5 .any (Rows.emptiesNetworkSpec.pre6 enc Try.prog Try.f5 Rows.emptiesNetworkRow.domain false) (Rows.emptiesNetworkSpec.post enc Try.prog Try.f5 false true false false):=by
 refine returnsInHanded_of_change (C:=Try.checked) own started (by kernel_rfl) Try.func5
  (ChangeSpec.witness6 (enc:=enc) (C:=Try.checked) false ⟨#[],#[.agg #[.slice none 0 0,.slice none 0 0,.slice none 0 0,.slice none 0 0,.slice none 0 0,.slice none 0 0,.slice none 0 0,.slice none 0 0,.slice none 0 0],.slice none 0 0,.slice none 0 0],[]⟩ 8 (by kernel_rfl) (by kernel_rfl) (by kernel_rfl) (by kernel_rfl)) ?_
 intro W base args ds gs before hval0 hW hcnd _
 have hval:∀(j:Nat) t v,Try.f5.params[j]? = some t->args[j]? = some v->Value.okWide Try.prog W .any base t v:=hval0
 have hW':=hW
 obtain⟨p,q,hA0,hV,rfl,hfz,hnd⟩:=hW
 have hA:DataW.TrodAll enc Try.prog W 0 (fun _=>true) true Try.f5.params.toList args.toList ds p:=hA0
 rw [Try.params5] at hA hval
 obtain⟨hl,x,hx,hxs⟩:=zwq (V:=TV) (n:=30) (cs:=[26,36,37]) (by kernel_rfl) hA (fun j t v ht hv=>hval j t v (by simpa using ht) (by simpa using hv))
 have hdl:=zj3 hA
 obtain⟨d0,d1,d2,rfl⟩:∃ d0 d1 d2,ds = [d0,d1,d2]:=by
  match ds,hdl with
  | [d0,d1,d2],_=>exact⟨d0,d1,d2,rfl⟩
 obtain⟨rfl,rfl⟩:=trodVars_none hV
 obtain⟨φ,hφ⟩:=zev x hx
 clear hA0 hval0
 refine(y94 (V:=TV) (zct φ) hφ (fun _=>rfl) rfl hl hxs).mono fun e W' ⟨he,hb⟩=>?_
 subst he
 exact⟨_,rfl,y3o hW' rfl rfl rfl rfl (by kernel_rfl) Try.underlying4 (by kernel_rfl) (by rw [Try.params5]; decide) hb⟩
theorem emptiesNetwork_holds:Rows.EmptiesNetworkSaid:=
 OpenClaim.holds_of_wide 5 Try.f5 rfl rfl rfl rfl rfl rfl rfl ⟨rfl,rfl,rfl,rfl,rfl⟩ rfl rfl rfl rfl rfl (by kernel_rfl) Try.func5 (by kernel_rfl)
  (of_decide_eq_true (by kernel_rfl)) (by unfold Func.isWrapper; first |(rw [if_pos (by decide +kernel)]; kernel_rfl) |(rw [if_neg (by decide +kernel)]; exact⟨rfl,rfl⟩))
  (fun os started H enc _=>emptiesNetwork_lifted os started H enc)
end Go.Proofs.Ytcofccdjgfgeeaa
end
