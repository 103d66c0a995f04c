/-
  No cell of these rows narrows 'for every input' (looked for: loops, veiled, ifaces, maps, wideKeys, modest, calm, conditions, laid).
  DERIVED. THE GIVEN ROWS OF THIS SEAT. 7 by the template 'for every input the law returns true; each argument reads behind the call as it read before'; 0 by the template 'total and deterministic' (their statements: YtghkddgggfodgaaGreatTotals.lean).
  GIVEN WITH THE SEED: the statements are not yours to turn. If you find one false, say at which input.
  Laid BY PROGRAM, IN A SANDBOX (cutbox-rows.mjs): the forced cells as the released guide's own fill.sh prints them over the translation 9e4363a4a48f7e33… (all of the seat's roots in one cut). By AI agents, Wed Nov 11 2026. No macro, syntax, notation, axiom, sorry.
-/
import Derived.Test.YtghkddgggfodgaaGreatChecked
import GoSem.Claim
import GoSem.ClaimJoined
import GoSem.ClaimMapViews
import Derived.JoinedTies
import Derived.KernelRfl
namespace Go.Proofs.YtghkddgggfodgaaGreat
/- THE CELL 'sum', in the pinned program and in every row, IS THE sha256 OF THE DUMP (.gsa) THAT YtghkddgggfodgaaGreatProg.lean LOADS. Nothing in Lean hashes anything: it is a label: what it is worth is what the hold of that sum in a sandbox is worth. -/
noncomputable def Tryz.pinned : Pinned := { name := "ytghkddgggfodgaagreat", sum := "9e4363a4a48f7e33aa561c5af7d6525744f8b97191beb54e1a91135208178fd3", checked := Tryz.checked }
namespace Rows
def none {H : Type} : Left H := { results := [], args := [] }

/-- 'wagonpoollaw26.ConflictMatchesReference': WHATEVER THE INPUT: true; the input reads as it did. -/
def conflictMatchesReferenceSpec : ChangeSpec := { name := "conflictMatchesReference", fn := fun _ => fun
  | [d1, d2] => { results := [.lit (.bool true)], args := [d1, d2] }
  | _ => none }
def conflictMatchesReferenceRow : OpenClaim := { program := "ytghkddgggfodgaagreat", sum := "9e4363a4a48f7e33aa561c5af7d6525744f8b97191beb54e1a91135208178fd3", func := "wagonpool/wagonpoollaw26.ConflictMatchesReference", spec := "conflictMatchesReference", unfollowed := true, recurses := true, named := ["math/bits.divideError", "math/bits.overflowError"], plainKeys := false, apart := false }
def ConflictMatchesReferenceSaid : Prop := conflictMatchesReferenceRow.holds Tryz.pinned (OpenSpec.ofChange conflictMatchesReferenceSpec)

/-- ITS FALSE NEIGHBOUR: 'it returns false'. Refute it at one input. -/
def conflictMatchesReferenceWrong : ChangeSpec := { name := "conflictMatchesReference", fn := fun _ => fun
  | [d1, d2] => { results := [.lit (.bool false)], args := [d1, d2] }
  | _ => none }
def ConflictMatchesReferenceWrongFalsely : Prop := conflictMatchesReferenceRow.holds Tryz.pinned (OpenSpec.ofChange conflictMatchesReferenceWrong)

/-- 'wagonpoollaw26.ConflictSublists': WHATEVER THE INPUT: true; the input reads as it did. -/
def conflictSublistsSpec : ChangeSpec := { name := "conflictSublists", fn := fun _ => fun
  | [d1, d2, d3] => { results := [.lit (.bool true)], args := [d1, d2, d3] }
  | _ => none }
def conflictSublistsRow : OpenClaim := { program := "ytghkddgggfodgaagreat", sum := "9e4363a4a48f7e33aa561c5af7d6525744f8b97191beb54e1a91135208178fd3", func := "wagonpool/wagonpoollaw26.ConflictSublists", spec := "conflictSublists", unfollowed := true, recurses := true, named := ["math/bits.divideError", "math/bits.overflowError"], plainKeys := false, apart := false }
def ConflictSublistsSaid : Prop := conflictSublistsRow.holds Tryz.pinned (OpenSpec.ofChange conflictSublistsSpec)

/-- ITS FALSE NEIGHBOUR: 'it returns false'. Refute it at one input. -/
def conflictSublistsWrong : ChangeSpec := { name := "conflictSublists", fn := fun _ => fun
  | [d1, d2, d3] => { results := [.lit (.bool false)], args := [d1, d2, d3] }
  | _ => none }
def ConflictSublistsWrongFalsely : Prop := conflictSublistsRow.holds Tryz.pinned (OpenSpec.ofChange conflictSublistsWrong)

/-- 'wagonpoollaw26.ConflictCoreIsMinimal': WHATEVER THE INPUT: true; the input reads as it did. -/
def conflictCoreIsMinimalSpec : ChangeSpec := { name := "conflictCoreIsMinimal", fn := fun _ => fun
  | [d1, d2] => { results := [.lit (.bool true)], args := [d1, d2] }
  | _ => none }
def conflictCoreIsMinimalRow : OpenClaim := { program := "ytghkddgggfodgaagreat", sum := "9e4363a4a48f7e33aa561c5af7d6525744f8b97191beb54e1a91135208178fd3", func := "wagonpool/wagonpoollaw26.ConflictCoreIsMinimal", spec := "conflictCoreIsMinimal", unfollowed := true, recurses := true, named := ["math/bits.divideError", "math/bits.overflowError"], plainKeys := false, apart := false }
def ConflictCoreIsMinimalSaid : Prop := conflictCoreIsMinimalRow.holds Tryz.pinned (OpenSpec.ofChange conflictCoreIsMinimalSpec)

/-- ITS FALSE NEIGHBOUR: 'it returns false'. Refute it at one input. -/
def conflictCoreIsMinimalWrong : ChangeSpec := { name := "conflictCoreIsMinimal", fn := fun _ => fun
  | [d1, d2] => { results := [.lit (.bool false)], args := [d1, d2] }
  | _ => none }
def ConflictCoreIsMinimalWrongFalsely : Prop := conflictCoreIsMinimalRow.holds Tryz.pinned (OpenSpec.ofChange conflictCoreIsMinimalWrong)

/-- 'wagonpoollaw26.ConflictKeepIsConsistent': WHATEVER THE INPUT: true; the input reads as it did. -/
def conflictKeepIsConsistentSpec : ChangeSpec := { name := "conflictKeepIsConsistent", fn := fun _ => fun
  | [d1, d2] => { results := [.lit (.bool true)], args := [d1, d2] }
  | _ => none }
def conflictKeepIsConsistentRow : OpenClaim := { program := "ytghkddgggfodgaagreat", sum := "9e4363a4a48f7e33aa561c5af7d6525744f8b97191beb54e1a91135208178fd3", func := "wagonpool/wagonpoollaw26.ConflictKeepIsConsistent", spec := "conflictKeepIsConsistent", unfollowed := true, recurses := true, named := ["math/bits.divideError", "math/bits.overflowError"], plainKeys := false, apart := false }
def ConflictKeepIsConsistentSaid : Prop := conflictKeepIsConsistentRow.holds Tryz.pinned (OpenSpec.ofChange conflictKeepIsConsistentSpec)

/-- ITS FALSE NEIGHBOUR: 'it returns false'. Refute it at one input. -/
def conflictKeepIsConsistentWrong : ChangeSpec := { name := "conflictKeepIsConsistent", fn := fun _ => fun
  | [d1, d2] => { results := [.lit (.bool false)], args := [d1, d2] }
  | _ => none }
def ConflictKeepIsConsistentWrongFalsely : Prop := conflictKeepIsConsistentRow.holds Tryz.pinned (OpenSpec.ofChange conflictKeepIsConsistentWrong)

/-- 'wagonpoollaw26.ConflictKeepsAll': WHATEVER THE INPUT: true; the input reads as it did. -/
def conflictKeepsAllSpec : ChangeSpec := { name := "conflictKeepsAll", fn := fun _ => fun
  | [d1, d2] => { results := [.lit (.bool true)], args := [d1, d2] }
  | _ => none }
def conflictKeepsAllRow : OpenClaim := { program := "ytghkddgggfodgaagreat", sum := "9e4363a4a48f7e33aa561c5af7d6525744f8b97191beb54e1a91135208178fd3", func := "wagonpool/wagonpoollaw26.ConflictKeepsAll", spec := "conflictKeepsAll", unfollowed := true, recurses := true, named := ["math/bits.divideError", "math/bits.overflowError"], plainKeys := false, apart := false }
def ConflictKeepsAllSaid : Prop := conflictKeepsAllRow.holds Tryz.pinned (OpenSpec.ofChange conflictKeepsAllSpec)

/-- ITS FALSE NEIGHBOUR: 'it returns false'. Refute it at one input. -/
def conflictKeepsAllWrong : ChangeSpec := { name := "conflictKeepsAll", fn := fun _ => fun
  | [d1, d2] => { results := [.lit (.bool false)], args := [d1, d2] }
  | _ => none }
def ConflictKeepsAllWrongFalsely : Prop := conflictKeepsAllRow.holds Tryz.pinned (OpenSpec.ofChange conflictKeepsAllWrong)

/-- 'wagonpoollaw26.ConflictSolvable': WHATEVER THE INPUT: true; the input reads as it did. -/
def conflictSolvableSpec : ChangeSpec := { name := "conflictSolvable", fn := fun _ => fun
  | [d1, d2] => { results := [.lit (.bool true)], args := [d1, d2] }
  | _ => none }
def conflictSolvableRow : OpenClaim := { program := "ytghkddgggfodgaagreat", sum := "9e4363a4a48f7e33aa561c5af7d6525744f8b97191beb54e1a91135208178fd3", func := "wagonpool/wagonpoollaw26.ConflictSolvable", spec := "conflictSolvable", unfollowed := true, recurses := true, named := ["math/bits.divideError", "math/bits.overflowError"], plainKeys := false, apart := false }
def ConflictSolvableSaid : Prop := conflictSolvableRow.holds Tryz.pinned (OpenSpec.ofChange conflictSolvableSpec)

/-- ITS FALSE NEIGHBOUR: 'it returns false'. Refute it at one input. -/
def conflictSolvableWrong : ChangeSpec := { name := "conflictSolvable", fn := fun _ => fun
  | [d1, d2] => { results := [.lit (.bool false)], args := [d1, d2] }
  | _ => none }
def ConflictSolvableWrongFalsely : Prop := conflictSolvableRow.holds Tryz.pinned (OpenSpec.ofChange conflictSolvableWrong)

/-- 'wagonpoollaw26.ConflictExplained': WHATEVER THE INPUT: true; the input reads as it did. -/
def conflictExplainedSpec : ChangeSpec := { name := "conflictExplained", fn := fun _ => fun
  | [d1, d2] => { results := [.lit (.bool true)], args := [d1, d2] }
  | _ => none }
def conflictExplainedRow : OpenClaim := { program := "ytghkddgggfodgaagreat", sum := "9e4363a4a48f7e33aa561c5af7d6525744f8b97191beb54e1a91135208178fd3", func := "wagonpool/wagonpoollaw26.ConflictExplained", spec := "conflictExplained", unfollowed := true, recurses := true, named := ["math/bits.divideError", "math/bits.overflowError"], plainKeys := false, apart := false }
def ConflictExplainedSaid : Prop := conflictExplainedRow.holds Tryz.pinned (OpenSpec.ofChange conflictExplainedSpec)

/-- ITS FALSE NEIGHBOUR: 'it returns false'. Refute it at one input. -/
def conflictExplainedWrong : ChangeSpec := { name := "conflictExplained", fn := fun _ => fun
  | [d1, d2] => { results := [.lit (.bool false)], args := [d1, d2] }
  | _ => none }
def ConflictExplainedWrongFalsely : Prop := conflictExplainedRow.holds Tryz.pinned (OpenSpec.ofChange conflictExplainedWrong)

/- THE SECOND FORM. 'bulk': how many values and letters a reading holds, each counted each time it is reached (what is shared counts as often as it is met; a slice's spare places count too). A statement '..UptoSaid' is the law's where the arguments, and the package variables that the reading takes, are together of bulk at most 1048576: NARROWER than '..Said'. Prove '..Said' where nothing that the law and all that it calls make is longer than what came in: it says more and counts as full. Else prove '..UptoSaid'. A law counts once. -/
mutual
def uptoBulk {H : Type} : DataW H → Nat
  | .lit (.string bytes) => bytes.length + 1
  | .lit _ => 1
  | .nil => 1
  | .ptr d => uptoBulk d + 1
  | .slice elems spare => uptoBulkAll elems + uptoBulkAll spare + 1
  | .agg parts => uptoBulkAll parts + 1
  | .iface _ d => uptoBulk d + 1
  | .map entries => uptoBulkEntries entries + 1
  | .held _ => 1
def uptoBulkAll {H : Type} : List (DataW H) → Nat
  | [] => 0
  | d :: r => uptoBulk d + uptoBulkAll r
def uptoBulkEntries {H : Type} : List (Lit × DataW H) → Nat
  | [] => 0
  | x :: r => uptoBulkEntry x + uptoBulkEntries r
def uptoBulkEntry {H : Type} : Lit × DataW H → Nat
  | (.string bytes, d) => bytes.length + uptoBulk d + 1
  | (_, d) => uptoBulk d + 1
 end
def uptoSmall : (H : Type) → List (DataW H) → Bool := fun _ ds => decide (uptoBulkAll ds ≤ 1048576)
def OpenSpec.upto (s : _root_.Go.ChangeSpec) : _root_.Go.OpenSpec := { _root_.Go.OpenSpec.ofChange s with cond := some uptoSmall }

/-- 'wagonpoollaw26.ConflictMatchesReference', WHERE WHAT IT READS IS OF BULK AT MOST 1048576: true; the input reads as it did. -/
def conflictMatchesReferenceUptoRow : OpenClaim := { program := "ytghkddgggfodgaagreat", sum := "9e4363a4a48f7e33aa561c5af7d6525744f8b97191beb54e1a91135208178fd3", func := "wagonpool/wagonpoollaw26.ConflictMatchesReference", spec := "conflictMatchesReference", unfollowed := true, recurses := true, named := ["math/bits.divideError", "math/bits.overflowError"], plainKeys := false, apart := false, narrowed := true }
def ConflictMatchesReferenceUptoSaid : Prop := conflictMatchesReferenceUptoRow.holds Tryz.pinned (OpenSpec.upto conflictMatchesReferenceSpec)

/-- 'wagonpoollaw26.ConflictSublists', WHERE WHAT IT READS IS OF BULK AT MOST 1048576: true; the input reads as it did. -/
def conflictSublistsUptoRow : OpenClaim := { program := "ytghkddgggfodgaagreat", sum := "9e4363a4a48f7e33aa561c5af7d6525744f8b97191beb54e1a91135208178fd3", func := "wagonpool/wagonpoollaw26.ConflictSublists", spec := "conflictSublists", unfollowed := true, recurses := true, named := ["math/bits.divideError", "math/bits.overflowError"], plainKeys := false, apart := false, narrowed := true }
def ConflictSublistsUptoSaid : Prop := conflictSublistsUptoRow.holds Tryz.pinned (OpenSpec.upto conflictSublistsSpec)

/-- 'wagonpoollaw26.ConflictCoreIsMinimal', WHERE WHAT IT READS IS OF BULK AT MOST 1048576: true; the input reads as it did. -/
def conflictCoreIsMinimalUptoRow : OpenClaim := { program := "ytghkddgggfodgaagreat", sum := "9e4363a4a48f7e33aa561c5af7d6525744f8b97191beb54e1a91135208178fd3", func := "wagonpool/wagonpoollaw26.ConflictCoreIsMinimal", spec := "conflictCoreIsMinimal", unfollowed := true, recurses := true, named := ["math/bits.divideError", "math/bits.overflowError"], plainKeys := false, apart := false, narrowed := true }
def ConflictCoreIsMinimalUptoSaid : Prop := conflictCoreIsMinimalUptoRow.holds Tryz.pinned (OpenSpec.upto conflictCoreIsMinimalSpec)

/-- 'wagonpoollaw26.ConflictKeepIsConsistent', WHERE WHAT IT READS IS OF BULK AT MOST 1048576: true; the input reads as it did. -/
def conflictKeepIsConsistentUptoRow : OpenClaim := { program := "ytghkddgggfodgaagreat", sum := "9e4363a4a48f7e33aa561c5af7d6525744f8b97191beb54e1a91135208178fd3", func := "wagonpool/wagonpoollaw26.ConflictKeepIsConsistent", spec := "conflictKeepIsConsistent", unfollowed := true, recurses := true, named := ["math/bits.divideError", "math/bits.overflowError"], plainKeys := false, apart := false, narrowed := true }
def ConflictKeepIsConsistentUptoSaid : Prop := conflictKeepIsConsistentUptoRow.holds Tryz.pinned (OpenSpec.upto conflictKeepIsConsistentSpec)

/-- 'wagonpoollaw26.ConflictKeepsAll', WHERE WHAT IT READS IS OF BULK AT MOST 1048576: true; the input reads as it did. -/
def conflictKeepsAllUptoRow : OpenClaim := { program := "ytghkddgggfodgaagreat", sum := "9e4363a4a48f7e33aa561c5af7d6525744f8b97191beb54e1a91135208178fd3", func := "wagonpool/wagonpoollaw26.ConflictKeepsAll", spec := "conflictKeepsAll", unfollowed := true, recurses := true, named := ["math/bits.divideError", "math/bits.overflowError"], plainKeys := false, apart := false, narrowed := true }
def ConflictKeepsAllUptoSaid : Prop := conflictKeepsAllUptoRow.holds Tryz.pinned (OpenSpec.upto conflictKeepsAllSpec)

/-- 'wagonpoollaw26.ConflictSolvable', WHERE WHAT IT READS IS OF BULK AT MOST 1048576: true; the input reads as it did. -/
def conflictSolvableUptoRow : OpenClaim := { program := "ytghkddgggfodgaagreat", sum := "9e4363a4a48f7e33aa561c5af7d6525744f8b97191beb54e1a91135208178fd3", func := "wagonpool/wagonpoollaw26.ConflictSolvable", spec := "conflictSolvable", unfollowed := true, recurses := true, named := ["math/bits.divideError", "math/bits.overflowError"], plainKeys := false, apart := false, narrowed := true }
def ConflictSolvableUptoSaid : Prop := conflictSolvableUptoRow.holds Tryz.pinned (OpenSpec.upto conflictSolvableSpec)

/-- 'wagonpoollaw26.ConflictExplained', WHERE WHAT IT READS IS OF BULK AT MOST 1048576: true; the input reads as it did. -/
def conflictExplainedUptoRow : OpenClaim := { program := "ytghkddgggfodgaagreat", sum := "9e4363a4a48f7e33aa561c5af7d6525744f8b97191beb54e1a91135208178fd3", func := "wagonpool/wagonpoollaw26.ConflictExplained", spec := "conflictExplained", unfollowed := true, recurses := true, named := ["math/bits.divideError", "math/bits.overflowError"], plainKeys := false, apart := false, narrowed := true }
def ConflictExplainedUptoSaid : Prop := conflictExplainedUptoRow.holds Tryz.pinned (OpenSpec.upto conflictExplainedSpec)

end Rows
end Go.Proofs.YtghkddgggfodgaaGreat
