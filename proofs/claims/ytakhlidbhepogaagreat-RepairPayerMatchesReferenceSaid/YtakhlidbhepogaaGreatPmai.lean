/- A part of the proof of repairPayerMatchesReference_holds. Conditions: none. -/
import Derived.Test.YtakhlidbhepogaaGreatPmah
import Derived.Test.YtakhlidbhepogaaGreatRows
import Derived.WalkKit
set_option linter.unusedVariables false
set_option linter.unusedSimpArgs false
section
set_option maxRecDepth 100000
namespace Go.Proofs.YtakhlidbhepogaaGreat
open Px Go.ChangeShapes Go.WideShapes Go.ChangeAt Go.RowKit
theorem own:ownKnob Tryz.prog.godebug=none:=by kernel_rfl
theorem repairPayerMatchesReference_lifted (os:Os) (started:os.Started) (H:Type) (enc:TypeId×Value->H) :
  ReturnsInHanded {} Tryz.checked os 4 .any (Rows.repairPayerMatchesReferenceSpec.pre6 enc Tryz.prog Tryz.f4 Rows.repairPayerMatchesReferenceRow.domain false) (Rows.repairPayerMatchesReferenceSpec.post enc Tryz.prog Tryz.f4 false true false false):=by
 refine returnsInHanded_of_change (C:=Tryz.checked) own started (by kernel_rfl) Tryz.func4
  (ChangeSpec.witness6 (enc:=enc) (C:=Tryz.checked) false ⟨#[],#[.agg #[.slice none 0 0,.slice none 0 0,.slice none 0 0,.slice none 0 0,.slice none 0 0,.slice none 0 0,.slice none 0 0,.slice none 0 0,.slice none 0 0],.slice none 0 0,.agg #[.int .i64 0,.int .i64 0,.int .i64 0,.int .i64 0,.int .i64 0,.int .i64 0,.int .i64 0,.int .i64 0,.int .i64 0,.int .i64 0,.int .i64 0,.int .i64 0,.int .i64 0,.int .i64 0,.int .i64 0,.int .i64 0,.int .i64 0,.int .i64 0,.int .i64 0,.string ⟨#[]⟩,.slice none 0 0]],[]⟩ 8 (by kernel_rfl) (by kernel_rfl) (by kernel_rfl) (by kernel_rfl)) ?_
 intro W base args ds gs before hval0 hW hcnd _
 have hval:∀(j:Nat) t v,Tryz.f4.params[j]? = some t->args[j]? = some v->Value.okWide Tryz.prog W .any base t v:=hval0
 have hW':=hW
 obtain⟨p,q,hA0,hV,rfl,hfz,hnd⟩:=hW
 have hA:DataW.TrodAll enc Tryz.prog W 0 (fun _=>true) true Tryz.f4.params.toList args.toList ds p:=hA0
 rw [Tryz.params4] at hA hval
 obtain⟨hl,x,hx,hxs⟩:=ydh (V:=TV) (n:=30) (cs:=[39,10,7]) (by kernel_rfl) hA (fun j t v ht hv=>hval j t v (by simpa using ht) (by simpa using hv))
 have hdl:=zut hA
 obtain⟨d0,d1,d2,rfl⟩:∃ d0 d1 d2,ds = [d0,d1,d2]:=by
  match ds,hdl with
  | [d0,d1,d2],_=>exact⟨d0,d1,d2,rfl⟩
 obtain⟨rfl,rfl⟩:=trodVars_none hV
 obtain⟨φ,hφ⟩:=zb7 x hx
 clear hA0 hval0
 refine(yp9 (V:=TV) (z9m φ) hφ (fun _=>rfl) rfl hl hxs).mono fun e W' ⟨he,hb⟩=>?_
 subst he
 exact⟨_,rfl,yhj hW' rfl rfl rfl rfl (by kernel_rfl) Tryz.underlying4 (by kernel_rfl) (by rw [Tryz.params4]; decide) hb⟩
theorem repairPayerMatchesReference_holds:Rows.RepairPayerMatchesReferenceSaid:=
 OpenClaim.holds_of_wide 4 Tryz.f4 rfl rfl rfl rfl rfl rfl rfl ⟨rfl,rfl,rfl,rfl,rfl⟩ rfl rfl rfl rfl rfl (by kernel_rfl) Tryz.func4 (by kernel_rfl)
  (of_decide_eq_true (by kernel_rfl)) (by unfold Func.isWrapper; first |(rw [if_pos (by decide +kernel)]; kernel_rfl) |(rw [if_neg (by decide +kernel)]; exact⟨rfl,rfl⟩))
  (fun os started H enc _=>repairPayerMatchesReference_lifted os started H enc)
end Go.Proofs.YtakhlidbhepogaaGreat
end
