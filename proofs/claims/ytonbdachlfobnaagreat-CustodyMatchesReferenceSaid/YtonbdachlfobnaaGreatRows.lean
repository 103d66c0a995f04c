/-
  No cell of these rows narrows 'for every input' (looked for: loops, veiled, ifaces, maps, wideKeys, modest, calm, conditions, laid).
  DERIVED. THE GIVEN ROWS OF THIS SEAT. 7 by the template 'for every input the law returns true; each argument reads behind the call as it read before'; 0 by the template 'total and deterministic' (their statements: YtonbdachlfobnaaGreatTotals.lean).
  GIVEN WITH THE SEED: the statements are not yours to turn. If you find one false, say at which input.
  Laid BY PROGRAM, IN A SANDBOX (cutbox-rows.mjs): the forced cells as the released guide's own fill.sh prints them over the translation fc5f95d2f434b0b2… (all of the seat's roots in one cut). By AI agents, Wed Nov 11 2026. No macro, syntax, notation, axiom, sorry.
-/
import Derived.Test.YtonbdachlfobnaaGreatChecked
import GoSem.Claim
import GoSem.ClaimJoined
import GoSem.ClaimMapViews
import Derived.JoinedTies
import Derived.KernelRfl
namespace Go.Proofs.YtonbdachlfobnaaGreat
/- THE CELL 'sum', in the pinned program and in every row, IS THE sha256 OF THE DUMP (.gsa) THAT YtonbdachlfobnaaGreatProg.lean LOADS. Nothing in Lean hashes anything: it is a label: what it is worth is what the hold of that sum in a sandbox is worth. -/
noncomputable def Tryz.pinned : Pinned := { name := "ytonbdachlfobnaagreat", sum := "fc5f95d2f434b0b2757d555293c9faa65498282b1f84c72d6f3e253416e6ae57", checked := Tryz.checked }
namespace Rows
def none {H : Type} : Left H := { results := [], args := [] }

/-- 'wagonpoollaw25.CustodyMatchesReference': WHATEVER THE INPUT: true; the input reads as it did. -/
def custodyMatchesReferenceSpec : ChangeSpec := { name := "custodyMatchesReference", fn := fun _ => fun
  | [d1, d2, d3, d4] => { results := [.lit (.bool true)], args := [d1, d2, d3, d4] }
  | _ => none }
def custodyMatchesReferenceRow : OpenClaim := { program := "ytonbdachlfobnaagreat", sum := "fc5f95d2f434b0b2757d555293c9faa65498282b1f84c72d6f3e253416e6ae57", func := "wagonpool/wagonpoollaw25.CustodyMatchesReference", spec := "custodyMatchesReference", unfollowed := true, recurses := true, named := ["math/bits.divideError", "math/bits.overflowError"], plainKeys := false, apart := false }
def CustodyMatchesReferenceSaid : Prop := custodyMatchesReferenceRow.holds Tryz.pinned (OpenSpec.ofChange custodyMatchesReferenceSpec)

/-- ITS FALSE NEIGHBOUR: 'it returns false'. Refute it at one input. -/
def custodyMatchesReferenceWrong : ChangeSpec := { name := "custodyMatchesReference", fn := fun _ => fun
  | [d1, d2, d3, d4] => { results := [.lit (.bool false)], args := [d1, d2, d3, d4] }
  | _ => none }
def CustodyMatchesReferenceWrongFalsely : Prop := custodyMatchesReferenceRow.holds Tryz.pinned (OpenSpec.ofChange custodyMatchesReferenceWrong)

/-- 'wagonpoollaw25.CustodyHistory': WHATEVER THE INPUT: true; the input reads as it did. -/
def custodyHistorySpec : ChangeSpec := { name := "custodyHistory", fn := fun _ => fun
  | [d1, d2] => { results := [.lit (.bool true)], args := [d1, d2] }
  | _ => none }
def custodyHistoryRow : OpenClaim := { program := "ytonbdachlfobnaagreat", sum := "fc5f95d2f434b0b2757d555293c9faa65498282b1f84c72d6f3e253416e6ae57", func := "wagonpool/wagonpoollaw25.CustodyHistory", spec := "custodyHistory", unfollowed := true, recurses := true, named := ["math/bits.divideError", "math/bits.overflowError"], plainKeys := false, apart := false }
def CustodyHistorySaid : Prop := custodyHistoryRow.holds Tryz.pinned (OpenSpec.ofChange custodyHistorySpec)

/-- ITS FALSE NEIGHBOUR: 'it returns false'. Refute it at one input. -/
def custodyHistoryWrong : ChangeSpec := { name := "custodyHistory", fn := fun _ => fun
  | [d1, d2] => { results := [.lit (.bool false)], args := [d1, d2] }
  | _ => none }
def CustodyHistoryWrongFalsely : Prop := custodyHistoryRow.holds Tryz.pinned (OpenSpec.ofChange custodyHistoryWrong)

/-- 'wagonpoollaw25.CustodyBounds': WHATEVER THE INPUT: true; the input reads as it did. -/
def custodyBoundsSpec : ChangeSpec := { name := "custodyBounds", fn := fun _ => fun
  | [d1, d2, d3] => { results := [.lit (.bool true)], args := [d1, d2, d3] }
  | _ => none }
def custodyBoundsRow : OpenClaim := { program := "ytonbdachlfobnaagreat", sum := "fc5f95d2f434b0b2757d555293c9faa65498282b1f84c72d6f3e253416e6ae57", func := "wagonpool/wagonpoollaw25.CustodyBounds", spec := "custodyBounds", unfollowed := true, recurses := true, named := ["math/bits.divideError", "math/bits.overflowError"], plainKeys := false, apart := false }
def CustodyBoundsSaid : Prop := custodyBoundsRow.holds Tryz.pinned (OpenSpec.ofChange custodyBoundsSpec)

/-- ITS FALSE NEIGHBOUR: 'it returns false'. Refute it at one input. -/
def custodyBoundsWrong : ChangeSpec := { name := "custodyBounds", fn := fun _ => fun
  | [d1, d2, d3] => { results := [.lit (.bool false)], args := [d1, d2, d3] }
  | _ => none }
def CustodyBoundsWrongFalsely : Prop := custodyBoundsRow.holds Tryz.pinned (OpenSpec.ofChange custodyBoundsWrong)

/-- 'wagonpoollaw25.CustodyCertain': WHATEVER THE INPUT: true; the input reads as it did. -/
def custodyCertainSpec : ChangeSpec := { name := "custodyCertain", fn := fun _ => fun
  | [d1, d2, d3, d4] => { results := [.lit (.bool true)], args := [d1, d2, d3, d4] }
  | _ => none }
def custodyCertainRow : OpenClaim := { program := "ytonbdachlfobnaagreat", sum := "fc5f95d2f434b0b2757d555293c9faa65498282b1f84c72d6f3e253416e6ae57", func := "wagonpool/wagonpoollaw25.CustodyCertain", spec := "custodyCertain", unfollowed := true, recurses := true, named := ["math/bits.divideError", "math/bits.overflowError"], plainKeys := false, apart := false }
def CustodyCertainSaid : Prop := custodyCertainRow.holds Tryz.pinned (OpenSpec.ofChange custodyCertainSpec)

/-- ITS FALSE NEIGHBOUR: 'it returns false'. Refute it at one input. -/
def custodyCertainWrong : ChangeSpec := { name := "custodyCertain", fn := fun _ => fun
  | [d1, d2, d3, d4] => { results := [.lit (.bool false)], args := [d1, d2, d3, d4] }
  | _ => none }
def CustodyCertainWrongFalsely : Prop := custodyCertainRow.holds Tryz.pinned (OpenSpec.ofChange custodyCertainWrong)

/-- 'wagonpoollaw25.CustodyTruth': WHATEVER THE INPUT: true; the input reads as it did. -/
def custodyTruthSpec : ChangeSpec := { name := "custodyTruth", fn := fun _ => fun
  | [d1, d2, d3, d4] => { results := [.lit (.bool true)], args := [d1, d2, d3, d4] }
  | _ => none }
def custodyTruthRow : OpenClaim := { program := "ytonbdachlfobnaagreat", sum := "fc5f95d2f434b0b2757d555293c9faa65498282b1f84c72d6f3e253416e6ae57", func := "wagonpool/wagonpoollaw25.CustodyTruth", spec := "custodyTruth", unfollowed := true, recurses := true, named := ["math/bits.divideError", "math/bits.overflowError"], plainKeys := false, apart := false }
def CustodyTruthSaid : Prop := custodyTruthRow.holds Tryz.pinned (OpenSpec.ofChange custodyTruthSpec)

/-- ITS FALSE NEIGHBOUR: 'it returns false'. Refute it at one input. -/
def custodyTruthWrong : ChangeSpec := { name := "custodyTruth", fn := fun _ => fun
  | [d1, d2, d3, d4] => { results := [.lit (.bool false)], args := [d1, d2, d3, d4] }
  | _ => none }
def CustodyTruthWrongFalsely : Prop := custodyTruthRow.holds Tryz.pinned (OpenSpec.ofChange custodyTruthWrong)

/-- 'wagonpoollaw25.CustodyNarrows': WHATEVER THE INPUT: true; the input reads as it did. -/
def custodyNarrowsSpec : ChangeSpec := { name := "custodyNarrows", fn := fun _ => fun
  | [d1, d2, d3, d4, d5] => { results := [.lit (.bool true)], args := [d1, d2, d3, d4, d5] }
  | _ => none }
def custodyNarrowsRow : OpenClaim := { program := "ytonbdachlfobnaagreat", sum := "fc5f95d2f434b0b2757d555293c9faa65498282b1f84c72d6f3e253416e6ae57", func := "wagonpool/wagonpoollaw25.CustodyNarrows", spec := "custodyNarrows", unfollowed := true, recurses := true, named := ["math/bits.divideError", "math/bits.overflowError"], plainKeys := false, apart := false }
def CustodyNarrowsSaid : Prop := custodyNarrowsRow.holds Tryz.pinned (OpenSpec.ofChange custodyNarrowsSpec)

/-- ITS FALSE NEIGHBOUR: 'it returns false'. Refute it at one input. -/
def custodyNarrowsWrong : ChangeSpec := { name := "custodyNarrows", fn := fun _ => fun
  | [d1, d2, d3, d4, d5] => { results := [.lit (.bool false)], args := [d1, d2, d3, d4, d5] }
  | _ => none }
def CustodyNarrowsWrongFalsely : Prop := custodyNarrowsRow.holds Tryz.pinned (OpenSpec.ofChange custodyNarrowsWrong)

/-- 'wagonpoollaw25.CustodyOrder': WHATEVER THE INPUT: true; the input reads as it did. -/
def custodyOrderSpec : ChangeSpec := { name := "custodyOrder", fn := fun _ => fun
  | [d1, d2, d3, d4] => { results := [.lit (.bool true)], args := [d1, d2, d3, d4] }
  | _ => none }
def custodyOrderRow : OpenClaim := { program := "ytonbdachlfobnaagreat", sum := "fc5f95d2f434b0b2757d555293c9faa65498282b1f84c72d6f3e253416e6ae57", func := "wagonpool/wagonpoollaw25.CustodyOrder", spec := "custodyOrder", unfollowed := true, recurses := true, named := ["math/bits.divideError", "math/bits.overflowError"], plainKeys := false, apart := false }
def CustodyOrderSaid : Prop := custodyOrderRow.holds Tryz.pinned (OpenSpec.ofChange custodyOrderSpec)

/-- ITS FALSE NEIGHBOUR: 'it returns false'. Refute it at one input. -/
def custodyOrderWrong : ChangeSpec := { name := "custodyOrder", fn := fun _ => fun
  | [d1, d2, d3, d4] => { results := [.lit (.bool false)], args := [d1, d2, d3, d4] }
  | _ => none }
def CustodyOrderWrongFalsely : Prop := custodyOrderRow.holds Tryz.pinned (OpenSpec.ofChange custodyOrderWrong)

/- THE SECOND FORM. 'bulk': how many values and letters a reading holds, each counted each time it is reached (what is shared counts as often as it is met; a slice's spare places count too). A statement '..UptoSaid' is the law's where the arguments, and the package variables that the reading takes, are together of bulk at most 1048576: NARROWER than '..Said'. Prove '..Said' where nothing that the law and all that it calls make is longer than what came in: it says more and counts as full. Else prove '..UptoSaid'. A law counts once. -/
mutual
def uptoBulk {H : Type} : DataW H → Nat
  | .lit (.string bytes) => bytes.length + 1
  | .lit _ => 1
  | .nil => 1
  | .ptr d => uptoBulk d + 1
  | .slice elems spare => uptoBulkAll elems + uptoBulkAll spare + 1
  | .agg parts => uptoBulkAll parts + 1
  | .iface _ d => uptoBulk d + 1
  | .map entries => uptoBulkEntries entries + 1
  | .held _ => 1
def uptoBulkAll {H : Type} : List (DataW H) → Nat
  | [] => 0
  | d :: r => uptoBulk d + uptoBulkAll r
def uptoBulkEntries {H : Type} : List (Lit × DataW H) → Nat
  | [] => 0
  | x :: r => uptoBulkEntry x + uptoBulkEntries r
def uptoBulkEntry {H : Type} : Lit × DataW H → Nat
  | (.string bytes, d) => bytes.length + uptoBulk d + 1
  | (_, d) => uptoBulk d + 1
 end
def uptoSmall : (H : Type) → List (DataW H) → Bool := fun _ ds => decide (uptoBulkAll ds ≤ 1048576)
def OpenSpec.upto (s : _root_.Go.ChangeSpec) : _root_.Go.OpenSpec := { _root_.Go.OpenSpec.ofChange s with cond := some uptoSmall }

/-- 'wagonpoollaw25.CustodyMatchesReference', WHERE WHAT IT READS IS OF BULK AT MOST 1048576: true; the input reads as it did. -/
def custodyMatchesReferenceUptoRow : OpenClaim := { program := "ytonbdachlfobnaagreat", sum := "fc5f95d2f434b0b2757d555293c9faa65498282b1f84c72d6f3e253416e6ae57", func := "wagonpool/wagonpoollaw25.CustodyMatchesReference", spec := "custodyMatchesReference", unfollowed := true, recurses := true, named := ["math/bits.divideError", "math/bits.overflowError"], plainKeys := false, apart := false, narrowed := true }
def CustodyMatchesReferenceUptoSaid : Prop := custodyMatchesReferenceUptoRow.holds Tryz.pinned (OpenSpec.upto custodyMatchesReferenceSpec)

/-- 'wagonpoollaw25.CustodyHistory', WHERE WHAT IT READS IS OF BULK AT MOST 1048576: true; the input reads as it did. -/
def custodyHistoryUptoRow : OpenClaim := { program := "ytonbdachlfobnaagreat", sum := "fc5f95d2f434b0b2757d555293c9faa65498282b1f84c72d6f3e253416e6ae57", func := "wagonpool/wagonpoollaw25.CustodyHistory", spec := "custodyHistory", unfollowed := true, recurses := true, named := ["math/bits.divideError", "math/bits.overflowError"], plainKeys := false, apart := false, narrowed := true }
def CustodyHistoryUptoSaid : Prop := custodyHistoryUptoRow.holds Tryz.pinned (OpenSpec.upto custodyHistorySpec)

/-- 'wagonpoollaw25.CustodyBounds', WHERE WHAT IT READS IS OF BULK AT MOST 1048576: true; the input reads as it did. -/
def custodyBoundsUptoRow : OpenClaim := { program := "ytonbdachlfobnaagreat", sum := "fc5f95d2f434b0b2757d555293c9faa65498282b1f84c72d6f3e253416e6ae57", func := "wagonpool/wagonpoollaw25.CustodyBounds", spec := "custodyBounds", unfollowed := true, recurses := true, named := ["math/bits.divideError", "math/bits.overflowError"], plainKeys := false, apart := false, narrowed := true }
def CustodyBoundsUptoSaid : Prop := custodyBoundsUptoRow.holds Tryz.pinned (OpenSpec.upto custodyBoundsSpec)

/-- 'wagonpoollaw25.CustodyCertain', WHERE WHAT IT READS IS OF BULK AT MOST 1048576: true; the input reads as it did. -/
def custodyCertainUptoRow : OpenClaim := { program := "ytonbdachlfobnaagreat", sum := "fc5f95d2f434b0b2757d555293c9faa65498282b1f84c72d6f3e253416e6ae57", func := "wagonpool/wagonpoollaw25.CustodyCertain", spec := "custodyCertain", unfollowed := true, recurses := true, named := ["math/bits.divideError", "math/bits.overflowError"], plainKeys := false, apart := false, narrowed := true }
def CustodyCertainUptoSaid : Prop := custodyCertainUptoRow.holds Tryz.pinned (OpenSpec.upto custodyCertainSpec)

/-- 'wagonpoollaw25.CustodyTruth', WHERE WHAT IT READS IS OF BULK AT MOST 1048576: true; the input reads as it did. -/
def custodyTruthUptoRow : OpenClaim := { program := "ytonbdachlfobnaagreat", sum := "fc5f95d2f434b0b2757d555293c9faa65498282b1f84c72d6f3e253416e6ae57", func := "wagonpool/wagonpoollaw25.CustodyTruth", spec := "custodyTruth", unfollowed := true, recurses := true, named := ["math/bits.divideError", "math/bits.overflowError"], plainKeys := false, apart := false, narrowed := true }
def CustodyTruthUptoSaid : Prop := custodyTruthUptoRow.holds Tryz.pinned (OpenSpec.upto custodyTruthSpec)

/-- 'wagonpoollaw25.CustodyNarrows', WHERE WHAT IT READS IS OF BULK AT MOST 1048576: true; the input reads as it did. -/
def custodyNarrowsUptoRow : OpenClaim := { program := "ytonbdachlfobnaagreat", sum := "fc5f95d2f434b0b2757d555293c9faa65498282b1f84c72d6f3e253416e6ae57", func := "wagonpool/wagonpoollaw25.CustodyNarrows", spec := "custodyNarrows", unfollowed := true, recurses := true, named := ["math/bits.divideError", "math/bits.overflowError"], plainKeys := false, apart := false, narrowed := true }
def CustodyNarrowsUptoSaid : Prop := custodyNarrowsUptoRow.holds Tryz.pinned (OpenSpec.upto custodyNarrowsSpec)

/-- 'wagonpoollaw25.CustodyOrder', WHERE WHAT IT READS IS OF BULK AT MOST 1048576: true; the input reads as it did. -/
def custodyOrderUptoRow : OpenClaim := { program := "ytonbdachlfobnaagreat", sum := "fc5f95d2f434b0b2757d555293c9faa65498282b1f84c72d6f3e253416e6ae57", func := "wagonpool/wagonpoollaw25.CustodyOrder", spec := "custodyOrder", unfollowed := true, recurses := true, named := ["math/bits.divideError", "math/bits.overflowError"], plainKeys := false, apart := false, narrowed := true }
def CustodyOrderUptoSaid : Prop := custodyOrderUptoRow.holds Tryz.pinned (OpenSpec.upto custodyOrderSpec)

end Rows
end Go.Proofs.YtonbdachlfobnaaGreat
