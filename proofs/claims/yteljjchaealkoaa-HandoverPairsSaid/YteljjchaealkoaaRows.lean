/-
  No cell of these rows narrows 'for every input' (looked for: loops, veiled, ifaces, maps, wideKeys, modest, calm, conditions, laid).
  DERIVED. THE GIVEN ROWS OF THIS SEAT. 6 by the template 'for every input the law returns true; each argument reads behind the call as it read before'; 0 by the template 'total and deterministic' (their statements: YteljjchaealkoaaTotals.lean).
  GIVEN WITH THE SEED: the statements are not yours to turn. If you find one false, say at which input.
  Laid BY PROGRAM, IN A SANDBOX (cutbox-rows.mjs): the forced cells as the released guide's own fill.sh prints them over the translation b0995be17cfacbfe… (all of the seat's roots in one cut). By AI agents, Wed Nov 11 2026. No macro, syntax, notation, axiom, sorry.
-/
import Derived.Test.YteljjchaealkoaaChecked
import GoSem.Claim
import GoSem.ClaimJoined
import GoSem.ClaimMapViews
import Derived.JoinedTies
import Derived.KernelRfl
namespace Go.Proofs.Yteljjchaealkoaa
/- THE CELL 'sum', in the pinned program and in every row, IS THE sha256 OF THE DUMP (.gsa) THAT YteljjchaealkoaaProg.lean LOADS. Nothing in Lean hashes anything: it is a label: what it is worth is what the hold of that sum in a sandbox is worth. -/
noncomputable def Try.pinned : Pinned := { name := "yteljjchaealkoaa", sum := "b0995be17cfacbfe4a6c0c54348ef5b65ccda74fc92e84d12a401708be709be0", checked := Try.checked }
namespace Rows
def none {H : Type} : Left H := { results := [], args := [] }

/-- 'wagonpoollaw27.HandoverOrder': WHATEVER THE INPUT: true; the input reads as it did. -/
def handoverOrderSpec : ChangeSpec := { name := "handoverOrder", fn := fun _ => fun
  | [d1, d2, d3, d4, d5] => { results := [.lit (.bool true)], args := [d1, d2, d3, d4, d5] }
  | _ => none }
def handoverOrderRow : OpenClaim := { program := "yteljjchaealkoaa", sum := "b0995be17cfacbfe4a6c0c54348ef5b65ccda74fc92e84d12a401708be709be0", func := "wagonpool/wagonpoollaw27.HandoverOrder", spec := "handoverOrder", unfollowed := true, recurses := true, named := ["math/bits.divideError", "math/bits.overflowError"], apart := false }
def HandoverOrderSaid : Prop := handoverOrderRow.holds Try.pinned (OpenSpec.ofChange handoverOrderSpec)

/-- ITS FALSE NEIGHBOUR: 'it returns false'. Refute it at one input. -/
def handoverOrderWrong : ChangeSpec := { name := "handoverOrder", fn := fun _ => fun
  | [d1, d2, d3, d4, d5] => { results := [.lit (.bool false)], args := [d1, d2, d3, d4, d5] }
  | _ => none }
def HandoverOrderWrongFalsely : Prop := handoverOrderRow.holds Try.pinned (OpenSpec.ofChange handoverOrderWrong)

/-- 'wagonpoollaw27.HandoverPartition': WHATEVER THE INPUT: true; the input reads as it did. -/
def handoverPartitionSpec : ChangeSpec := { name := "handoverPartition", fn := fun _ => fun
  | [d1, d2, d3, d4] => { results := [.lit (.bool true)], args := [d1, d2, d3, d4] }
  | _ => none }
def handoverPartitionRow : OpenClaim := { program := "yteljjchaealkoaa", sum := "b0995be17cfacbfe4a6c0c54348ef5b65ccda74fc92e84d12a401708be709be0", func := "wagonpool/wagonpoollaw27.HandoverPartition", spec := "handoverPartition", unfollowed := true, recurses := true, named := ["math/bits.divideError", "math/bits.overflowError"], apart := false }
def HandoverPartitionSaid : Prop := handoverPartitionRow.holds Try.pinned (OpenSpec.ofChange handoverPartitionSpec)

/-- ITS FALSE NEIGHBOUR: 'it returns false'. Refute it at one input. -/
def handoverPartitionWrong : ChangeSpec := { name := "handoverPartition", fn := fun _ => fun
  | [d1, d2, d3, d4] => { results := [.lit (.bool false)], args := [d1, d2, d3, d4] }
  | _ => none }
def HandoverPartitionWrongFalsely : Prop := handoverPartitionRow.holds Try.pinned (OpenSpec.ofChange handoverPartitionWrong)

/-- 'wagonpoollaw27.HandoverAt': WHATEVER THE INPUT: true; the input reads as it did. -/
def handoverAtSpec : ChangeSpec := { name := "handoverAt", fn := fun _ => fun
  | [d1, d2, d3, d4, d5, d6] => { results := [.lit (.bool true)], args := [d1, d2, d3, d4, d5, d6] }
  | _ => none }
def handoverAtRow : OpenClaim := { program := "yteljjchaealkoaa", sum := "b0995be17cfacbfe4a6c0c54348ef5b65ccda74fc92e84d12a401708be709be0", func := "wagonpool/wagonpoollaw27.HandoverAt", spec := "handoverAt", unfollowed := true, recurses := true, named := ["math/bits.divideError", "math/bits.overflowError"], apart := false }
def HandoverAtSaid : Prop := handoverAtRow.holds Try.pinned (OpenSpec.ofChange handoverAtSpec)

/-- ITS FALSE NEIGHBOUR: 'it returns false'. Refute it at one input. -/
def handoverAtWrong : ChangeSpec := { name := "handoverAt", fn := fun _ => fun
  | [d1, d2, d3, d4, d5, d6] => { results := [.lit (.bool false)], args := [d1, d2, d3, d4, d5, d6] }
  | _ => none }
def HandoverAtWrongFalsely : Prop := handoverAtRow.holds Try.pinned (OpenSpec.ofChange handoverAtWrong)

/-- 'wagonpoollaw27.HandoverPairs': WHATEVER THE INPUT: true; the input reads as it did. -/
def handoverPairsSpec : ChangeSpec := { name := "handoverPairs", fn := fun _ => fun
  | [d1, d2] => { results := [.lit (.bool true)], args := [d1, d2] }
  | _ => none }
def handoverPairsRow : OpenClaim := { program := "yteljjchaealkoaa", sum := "b0995be17cfacbfe4a6c0c54348ef5b65ccda74fc92e84d12a401708be709be0", func := "wagonpool/wagonpoollaw27.HandoverPairs", spec := "handoverPairs", unfollowed := true, recurses := true, named := ["math/bits.divideError", "math/bits.overflowError"], apart := false }
def HandoverPairsSaid : Prop := handoverPairsRow.holds Try.pinned (OpenSpec.ofChange handoverPairsSpec)

/-- ITS FALSE NEIGHBOUR: 'it returns false'. Refute it at one input. -/
def handoverPairsWrong : ChangeSpec := { name := "handoverPairs", fn := fun _ => fun
  | [d1, d2] => { results := [.lit (.bool false)], args := [d1, d2] }
  | _ => none }
def HandoverPairsWrongFalsely : Prop := handoverPairsRow.holds Try.pinned (OpenSpec.ofChange handoverPairsWrong)

/-- 'wagonpoollaw27.HandoverMaximal': WHATEVER THE INPUT: true; the input reads as it did. -/
def handoverMaximalSpec : ChangeSpec := { name := "handoverMaximal", fn := fun _ => fun
  | [d1, d2] => { results := [.lit (.bool true)], args := [d1, d2] }
  | _ => none }
def handoverMaximalRow : OpenClaim := { program := "yteljjchaealkoaa", sum := "b0995be17cfacbfe4a6c0c54348ef5b65ccda74fc92e84d12a401708be709be0", func := "wagonpool/wagonpoollaw27.HandoverMaximal", spec := "handoverMaximal", unfollowed := true, recurses := true, named := ["math/bits.divideError", "math/bits.overflowError"], apart := false }
def HandoverMaximalSaid : Prop := handoverMaximalRow.holds Try.pinned (OpenSpec.ofChange handoverMaximalSpec)

/-- ITS FALSE NEIGHBOUR: 'it returns false'. Refute it at one input. -/
def handoverMaximalWrong : ChangeSpec := { name := "handoverMaximal", fn := fun _ => fun
  | [d1, d2] => { results := [.lit (.bool false)], args := [d1, d2] }
  | _ => none }
def HandoverMaximalWrongFalsely : Prop := handoverMaximalRow.holds Try.pinned (OpenSpec.ofChange handoverMaximalWrong)

/-- 'wagonpoollaw27.HandoverLater': WHATEVER THE INPUT: true; the input reads as it did. -/
def handoverLaterSpec : ChangeSpec := { name := "handoverLater", fn := fun _ => fun
  | [d1, d2, d3, d4] => { results := [.lit (.bool true)], args := [d1, d2, d3, d4] }
  | _ => none }
def handoverLaterRow : OpenClaim := { program := "yteljjchaealkoaa", sum := "b0995be17cfacbfe4a6c0c54348ef5b65ccda74fc92e84d12a401708be709be0", func := "wagonpool/wagonpoollaw27.HandoverLater", spec := "handoverLater", unfollowed := true, recurses := true, named := ["math/bits.divideError", "math/bits.overflowError"], apart := false }
def HandoverLaterSaid : Prop := handoverLaterRow.holds Try.pinned (OpenSpec.ofChange handoverLaterSpec)

/-- ITS FALSE NEIGHBOUR: 'it returns false'. Refute it at one input. -/
def handoverLaterWrong : ChangeSpec := { name := "handoverLater", fn := fun _ => fun
  | [d1, d2, d3, d4] => { results := [.lit (.bool false)], args := [d1, d2, d3, d4] }
  | _ => none }
def HandoverLaterWrongFalsely : Prop := handoverLaterRow.holds Try.pinned (OpenSpec.ofChange handoverLaterWrong)

/- THE SECOND FORM. 'bulk': how many values and letters a reading holds, each counted each time it is reached (what is shared counts as often as it is met; a slice's spare places count too). A statement '..UptoSaid' is the law's where the arguments, and the package variables that the reading takes, are together of bulk at most 1048576: NARROWER than '..Said'. Prove '..Said' where nothing that the law and all that it calls make is longer than what came in: it says more and counts as full. Else prove '..UptoSaid'. A law counts once. -/
mutual
def uptoBulk {H : Type} : DataW H → Nat
  | .lit (.string bytes) => bytes.length + 1
  | .lit _ => 1
  | .nil => 1
  | .ptr d => uptoBulk d + 1
  | .slice elems spare => uptoBulkAll elems + uptoBulkAll spare + 1
  | .agg parts => uptoBulkAll parts + 1
  | .iface _ d => uptoBulk d + 1
  | .map entries => uptoBulkEntries entries + 1
  | .held _ => 1
def uptoBulkAll {H : Type} : List (DataW H) → Nat
  | [] => 0
  | d :: r => uptoBulk d + uptoBulkAll r
def uptoBulkEntries {H : Type} : List (Lit × DataW H) → Nat
  | [] => 0
  | x :: r => uptoBulkEntry x + uptoBulkEntries r
def uptoBulkEntry {H : Type} : Lit × DataW H → Nat
  | (.string bytes, d) => bytes.length + uptoBulk d + 1
  | (_, d) => uptoBulk d + 1
 end
def uptoSmall : (H : Type) → List (DataW H) → Bool := fun _ ds => decide (uptoBulkAll ds ≤ 1048576)
def OpenSpec.upto (s : _root_.Go.ChangeSpec) : _root_.Go.OpenSpec := { _root_.Go.OpenSpec.ofChange s with cond := some uptoSmall }

/-- 'wagonpoollaw27.HandoverOrder', WHERE WHAT IT READS IS OF BULK AT MOST 1048576: true; the input reads as it did. -/
def handoverOrderUptoRow : OpenClaim := { program := "yteljjchaealkoaa", sum := "b0995be17cfacbfe4a6c0c54348ef5b65ccda74fc92e84d12a401708be709be0", func := "wagonpool/wagonpoollaw27.HandoverOrder", spec := "handoverOrder", unfollowed := true, recurses := true, named := ["math/bits.divideError", "math/bits.overflowError"], apart := false, narrowed := true }
def HandoverOrderUptoSaid : Prop := handoverOrderUptoRow.holds Try.pinned (OpenSpec.upto handoverOrderSpec)

/-- 'wagonpoollaw27.HandoverPartition', WHERE WHAT IT READS IS OF BULK AT MOST 1048576: true; the input reads as it did. -/
def handoverPartitionUptoRow : OpenClaim := { program := "yteljjchaealkoaa", sum := "b0995be17cfacbfe4a6c0c54348ef5b65ccda74fc92e84d12a401708be709be0", func := "wagonpool/wagonpoollaw27.HandoverPartition", spec := "handoverPartition", unfollowed := true, recurses := true, named := ["math/bits.divideError", "math/bits.overflowError"], apart := false, narrowed := true }
def HandoverPartitionUptoSaid : Prop := handoverPartitionUptoRow.holds Try.pinned (OpenSpec.upto handoverPartitionSpec)

/-- 'wagonpoollaw27.HandoverAt', WHERE WHAT IT READS IS OF BULK AT MOST 1048576: true; the input reads as it did. -/
def handoverAtUptoRow : OpenClaim := { program := "yteljjchaealkoaa", sum := "b0995be17cfacbfe4a6c0c54348ef5b65ccda74fc92e84d12a401708be709be0", func := "wagonpool/wagonpoollaw27.HandoverAt", spec := "handoverAt", unfollowed := true, recurses := true, named := ["math/bits.divideError", "math/bits.overflowError"], apart := false, narrowed := true }
def HandoverAtUptoSaid : Prop := handoverAtUptoRow.holds Try.pinned (OpenSpec.upto handoverAtSpec)

/-- 'wagonpoollaw27.HandoverPairs', WHERE WHAT IT READS IS OF BULK AT MOST 1048576: true; the input reads as it did. -/
def handoverPairsUptoRow : OpenClaim := { program := "yteljjchaealkoaa", sum := "b0995be17cfacbfe4a6c0c54348ef5b65ccda74fc92e84d12a401708be709be0", func := "wagonpool/wagonpoollaw27.HandoverPairs", spec := "handoverPairs", unfollowed := true, recurses := true, named := ["math/bits.divideError", "math/bits.overflowError"], apart := false, narrowed := true }
def HandoverPairsUptoSaid : Prop := handoverPairsUptoRow.holds Try.pinned (OpenSpec.upto handoverPairsSpec)

/-- 'wagonpoollaw27.HandoverMaximal', WHERE WHAT IT READS IS OF BULK AT MOST 1048576: true; the input reads as it did. -/
def handoverMaximalUptoRow : OpenClaim := { program := "yteljjchaealkoaa", sum := "b0995be17cfacbfe4a6c0c54348ef5b65ccda74fc92e84d12a401708be709be0", func := "wagonpool/wagonpoollaw27.HandoverMaximal", spec := "handoverMaximal", unfollowed := true, recurses := true, named := ["math/bits.divideError", "math/bits.overflowError"], apart := false, narrowed := true }
def HandoverMaximalUptoSaid : Prop := handoverMaximalUptoRow.holds Try.pinned (OpenSpec.upto handoverMaximalSpec)

/-- 'wagonpoollaw27.HandoverLater', WHERE WHAT IT READS IS OF BULK AT MOST 1048576: true; the input reads as it did. -/
def handoverLaterUptoRow : OpenClaim := { program := "yteljjchaealkoaa", sum := "b0995be17cfacbfe4a6c0c54348ef5b65ccda74fc92e84d12a401708be709be0", func := "wagonpool/wagonpoollaw27.HandoverLater", spec := "handoverLater", unfollowed := true, recurses := true, named := ["math/bits.divideError", "math/bits.overflowError"], apart := false, narrowed := true }
def HandoverLaterUptoSaid : Prop := handoverLaterUptoRow.holds Try.pinned (OpenSpec.upto handoverLaterSpec)

end Rows
end Go.Proofs.Yteljjchaealkoaa
