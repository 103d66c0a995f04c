/-
  No cell of these rows narrows 'for every input' (looked for: loops, veiled, ifaces, maps, wideKeys, modest, calm, conditions, laid).
  DERIVED. THE GIVEN ROWS OF THIS SEAT. 7 by the template 'for every input the law returns true; each argument reads behind the call as it read before'; 0 by the template 'total and deterministic' (their statements: YtakhlidbhepogaaGreatTotals.lean).
  GIVEN WITH THE SEED: the statements are not yours to turn. If you find one false, say at which input.
  Laid BY PROGRAM, IN A SANDBOX (cutbox-rows.mjs): the forced cells as the released guide's own fill.sh prints them over the translation a9f2d34f47e72697… (all of the seat's roots in one cut). By AI agents, Wed Nov 11 2026. No macro, syntax, notation, axiom, sorry.
-/
import Derived.Test.YtakhlidbhepogaaGreatChecked
import GoSem.Claim
import GoSem.ClaimJoined
import GoSem.ClaimMapViews
import Derived.JoinedTies
import Derived.KernelRfl
namespace Go.Proofs.YtakhlidbhepogaaGreat
/- THE CELL 'sum', in the pinned program and in every row, IS THE sha256 OF THE DUMP (.gsa) THAT YtakhlidbhepogaaGreatProg.lean LOADS. Nothing in Lean hashes anything: it is a label: what it is worth is what the hold of that sum in a sandbox is worth. -/
noncomputable def Tryz.pinned : Pinned := { name := "ytakhlidbhepogaagreat", sum := "a9f2d34f47e726975d080a8340eae20ccdcf3f335f3a24279814b8dfdfc0a6f5", checked := Tryz.checked }
namespace Rows
def none {H : Type} : Left H := { results := [], args := [] }

/-- 'wagonpoollaw28.RepairMatchesReference': WHATEVER THE INPUT: true; the input reads as it did. -/
def repairMatchesReferenceSpec : ChangeSpec := { name := "repairMatchesReference", fn := fun _ => fun
  | [d1, d2, d3, d4] => { results := [.lit (.bool true)], args := [d1, d2, d3, d4] }
  | _ => none }
def repairMatchesReferenceRow : OpenClaim := { program := "ytakhlidbhepogaagreat", sum := "a9f2d34f47e726975d080a8340eae20ccdcf3f335f3a24279814b8dfdfc0a6f5", func := "wagonpool/wagonpoollaw28.RepairMatchesReference", spec := "repairMatchesReference", unfollowed := true, recurses := true, named := ["math/bits.divideError", "math/bits.overflowError"], plainKeys := false, apart := false }
def RepairMatchesReferenceSaid : Prop := repairMatchesReferenceRow.holds Tryz.pinned (OpenSpec.ofChange repairMatchesReferenceSpec)

/-- ITS FALSE NEIGHBOUR: 'it returns false'. Refute it at one input. -/
def repairMatchesReferenceWrong : ChangeSpec := { name := "repairMatchesReference", fn := fun _ => fun
  | [d1, d2, d3, d4] => { results := [.lit (.bool false)], args := [d1, d2, d3, d4] }
  | _ => none }
def RepairMatchesReferenceWrongFalsely : Prop := repairMatchesReferenceRow.holds Tryz.pinned (OpenSpec.ofChange repairMatchesReferenceWrong)

/-- 'wagonpoollaw28.RepairPayerMatchesReference': WHATEVER THE INPUT: true; the input reads as it did. -/
def repairPayerMatchesReferenceSpec : ChangeSpec := { name := "repairPayerMatchesReference", fn := fun _ => fun
  | [d1, d2, d3] => { results := [.lit (.bool true)], args := [d1, d2, d3] }
  | _ => none }
def repairPayerMatchesReferenceRow : OpenClaim := { program := "ytakhlidbhepogaagreat", sum := "a9f2d34f47e726975d080a8340eae20ccdcf3f335f3a24279814b8dfdfc0a6f5", func := "wagonpool/wagonpoollaw28.RepairPayerMatchesReference", spec := "repairPayerMatchesReference", unfollowed := true, recurses := true, named := ["math/bits.divideError", "math/bits.overflowError"], plainKeys := false, apart := false }
def RepairPayerMatchesReferenceSaid : Prop := repairPayerMatchesReferenceRow.holds Tryz.pinned (OpenSpec.ofChange repairPayerMatchesReferenceSpec)

/-- ITS FALSE NEIGHBOUR: 'it returns false'. Refute it at one input. -/
def repairPayerMatchesReferenceWrong : ChangeSpec := { name := "repairPayerMatchesReference", fn := fun _ => fun
  | [d1, d2, d3] => { results := [.lit (.bool false)], args := [d1, d2, d3] }
  | _ => none }
def RepairPayerMatchesReferenceWrongFalsely : Prop := repairPayerMatchesReferenceRow.holds Tryz.pinned (OpenSpec.ofChange repairPayerMatchesReferenceWrong)

/-- 'wagonpoollaw28.RepairFinds': WHATEVER THE INPUT: true; the input reads as it did. -/
def repairFindsSpec : ChangeSpec := { name := "repairFinds", fn := fun _ => fun
  | [d1, d2] => { results := [.lit (.bool true)], args := [d1, d2] }
  | _ => none }
def repairFindsRow : OpenClaim := { program := "ytakhlidbhepogaagreat", sum := "a9f2d34f47e726975d080a8340eae20ccdcf3f335f3a24279814b8dfdfc0a6f5", func := "wagonpool/wagonpoollaw28.RepairFinds", spec := "repairFinds", unfollowed := true, recurses := true, named := ["math/bits.divideError", "math/bits.overflowError"], plainKeys := false, apart := false }
def RepairFindsSaid : Prop := repairFindsRow.holds Tryz.pinned (OpenSpec.ofChange repairFindsSpec)

/-- ITS FALSE NEIGHBOUR: 'it returns false'. Refute it at one input. -/
def repairFindsWrong : ChangeSpec := { name := "repairFinds", fn := fun _ => fun
  | [d1, d2] => { results := [.lit (.bool false)], args := [d1, d2] }
  | _ => none }
def RepairFindsWrongFalsely : Prop := repairFindsRow.holds Tryz.pinned (OpenSpec.ofChange repairFindsWrong)

/-- 'wagonpoollaw28.RepairCertain': WHATEVER THE INPUT: true; the input reads as it did. -/
def repairCertainSpec : ChangeSpec := { name := "repairCertain", fn := fun _ => fun
  | [d1, d2, d3, d4] => { results := [.lit (.bool true)], args := [d1, d2, d3, d4] }
  | _ => none }
def repairCertainRow : OpenClaim := { program := "ytakhlidbhepogaagreat", sum := "a9f2d34f47e726975d080a8340eae20ccdcf3f335f3a24279814b8dfdfc0a6f5", func := "wagonpool/wagonpoollaw28.RepairCertain", spec := "repairCertain", unfollowed := true, recurses := true, named := ["math/bits.divideError", "math/bits.overflowError"], plainKeys := false, apart := false }
def RepairCertainSaid : Prop := repairCertainRow.holds Tryz.pinned (OpenSpec.ofChange repairCertainSpec)

/-- ITS FALSE NEIGHBOUR: 'it returns false'. Refute it at one input. -/
def repairCertainWrong : ChangeSpec := { name := "repairCertain", fn := fun _ => fun
  | [d1, d2, d3, d4] => { results := [.lit (.bool false)], args := [d1, d2, d3, d4] }
  | _ => none }
def RepairCertainWrongFalsely : Prop := repairCertainRow.holds Tryz.pinned (OpenSpec.ofChange repairCertainWrong)

/-- 'wagonpoollaw28.RepairOrder': WHATEVER THE INPUT: true; the input reads as it did. -/
def repairOrderSpec : ChangeSpec := { name := "repairOrder", fn := fun _ => fun
  | [d1, d2, d3] => { results := [.lit (.bool true)], args := [d1, d2, d3] }
  | _ => none }
def repairOrderRow : OpenClaim := { program := "ytakhlidbhepogaagreat", sum := "a9f2d34f47e726975d080a8340eae20ccdcf3f335f3a24279814b8dfdfc0a6f5", func := "wagonpool/wagonpoollaw28.RepairOrder", spec := "repairOrder", unfollowed := true, recurses := true, named := ["math/bits.divideError", "math/bits.overflowError"], plainKeys := false, apart := false }
def RepairOrderSaid : Prop := repairOrderRow.holds Tryz.pinned (OpenSpec.ofChange repairOrderSpec)

/-- ITS FALSE NEIGHBOUR: 'it returns false'. Refute it at one input. -/
def repairOrderWrong : ChangeSpec := { name := "repairOrder", fn := fun _ => fun
  | [d1, d2, d3] => { results := [.lit (.bool false)], args := [d1, d2, d3] }
  | _ => none }
def RepairOrderWrongFalsely : Prop := repairOrderRow.holds Tryz.pinned (OpenSpec.ofChange repairOrderWrong)

/-- 'wagonpoollaw28.RepairBlocks': WHATEVER THE INPUT: true; the input reads as it did. -/
def repairBlocksSpec : ChangeSpec := { name := "repairBlocks", fn := fun _ => fun
  | [d1, d2, d3] => { results := [.lit (.bool true)], args := [d1, d2, d3] }
  | _ => none }
def repairBlocksRow : OpenClaim := { program := "ytakhlidbhepogaagreat", sum := "a9f2d34f47e726975d080a8340eae20ccdcf3f335f3a24279814b8dfdfc0a6f5", func := "wagonpool/wagonpoollaw28.RepairBlocks", spec := "repairBlocks", unfollowed := true, recurses := true, named := ["math/bits.divideError", "math/bits.overflowError"], plainKeys := false, apart := false }
def RepairBlocksSaid : Prop := repairBlocksRow.holds Tryz.pinned (OpenSpec.ofChange repairBlocksSpec)

/-- ITS FALSE NEIGHBOUR: 'it returns false'. Refute it at one input. -/
def repairBlocksWrong : ChangeSpec := { name := "repairBlocks", fn := fun _ => fun
  | [d1, d2, d3] => { results := [.lit (.bool false)], args := [d1, d2, d3] }
  | _ => none }
def RepairBlocksWrongFalsely : Prop := repairBlocksRow.holds Tryz.pinned (OpenSpec.ofChange repairBlocksWrong)

/-- 'wagonpoollaw28.RepairPays': WHATEVER THE INPUT: true; the input reads as it did. -/
def repairPaysSpec : ChangeSpec := { name := "repairPays", fn := fun _ => fun
  | [d1, d2, d3, d4] => { results := [.lit (.bool true)], args := [d1, d2, d3, d4] }
  | _ => none }
def repairPaysRow : OpenClaim := { program := "ytakhlidbhepogaagreat", sum := "a9f2d34f47e726975d080a8340eae20ccdcf3f335f3a24279814b8dfdfc0a6f5", func := "wagonpool/wagonpoollaw28.RepairPays", spec := "repairPays", unfollowed := true, recurses := true, named := ["math/bits.divideError", "math/bits.overflowError"], plainKeys := false, apart := false }
def RepairPaysSaid : Prop := repairPaysRow.holds Tryz.pinned (OpenSpec.ofChange repairPaysSpec)

/-- ITS FALSE NEIGHBOUR: 'it returns false'. Refute it at one input. -/
def repairPaysWrong : ChangeSpec := { name := "repairPays", fn := fun _ => fun
  | [d1, d2, d3, d4] => { results := [.lit (.bool false)], args := [d1, d2, d3, d4] }
  | _ => none }
def RepairPaysWrongFalsely : Prop := repairPaysRow.holds Tryz.pinned (OpenSpec.ofChange repairPaysWrong)

/- THE SECOND FORM. 'bulk': how many values and letters a reading holds, each counted each time it is reached (what is shared counts as often as it is met; a slice's spare places count too). A statement '..UptoSaid' is the law's where the arguments, and the package variables that the reading takes, are together of bulk at most 1048576: NARROWER than '..Said'. Prove '..Said' where nothing that the law and all that it calls make is longer than what came in: it says more and counts as full. Else prove '..UptoSaid'. A law counts once. -/
mutual
def uptoBulk {H : Type} : DataW H → Nat
  | .lit (.string bytes) => bytes.length + 1
  | .lit _ => 1
  | .nil => 1
  | .ptr d => uptoBulk d + 1
  | .slice elems spare => uptoBulkAll elems + uptoBulkAll spare + 1
  | .agg parts => uptoBulkAll parts + 1
  | .iface _ d => uptoBulk d + 1
  | .map entries => uptoBulkEntries entries + 1
  | .held _ => 1
def uptoBulkAll {H : Type} : List (DataW H) → Nat
  | [] => 0
  | d :: r => uptoBulk d + uptoBulkAll r
def uptoBulkEntries {H : Type} : List (Lit × DataW H) → Nat
  | [] => 0
  | x :: r => uptoBulkEntry x + uptoBulkEntries r
def uptoBulkEntry {H : Type} : Lit × DataW H → Nat
  | (.string bytes, d) => bytes.length + uptoBulk d + 1
  | (_, d) => uptoBulk d + 1
 end
def uptoSmall : (H : Type) → List (DataW H) → Bool := fun _ ds => decide (uptoBulkAll ds ≤ 1048576)
def OpenSpec.upto (s : _root_.Go.ChangeSpec) : _root_.Go.OpenSpec := { _root_.Go.OpenSpec.ofChange s with cond := some uptoSmall }

/-- 'wagonpoollaw28.RepairMatchesReference', WHERE WHAT IT READS IS OF BULK AT MOST 1048576: true; the input reads as it did. -/
def repairMatchesReferenceUptoRow : OpenClaim := { program := "ytakhlidbhepogaagreat", sum := "a9f2d34f47e726975d080a8340eae20ccdcf3f335f3a24279814b8dfdfc0a6f5", func := "wagonpool/wagonpoollaw28.RepairMatchesReference", spec := "repairMatchesReference", unfollowed := true, recurses := true, named := ["math/bits.divideError", "math/bits.overflowError"], plainKeys := false, apart := false, narrowed := true }
def RepairMatchesReferenceUptoSaid : Prop := repairMatchesReferenceUptoRow.holds Tryz.pinned (OpenSpec.upto repairMatchesReferenceSpec)

/-- 'wagonpoollaw28.RepairPayerMatchesReference', WHERE WHAT IT READS IS OF BULK AT MOST 1048576: true; the input reads as it did. -/
def repairPayerMatchesReferenceUptoRow : OpenClaim := { program := "ytakhlidbhepogaagreat", sum := "a9f2d34f47e726975d080a8340eae20ccdcf3f335f3a24279814b8dfdfc0a6f5", func := "wagonpool/wagonpoollaw28.RepairPayerMatchesReference", spec := "repairPayerMatchesReference", unfollowed := true, recurses := true, named := ["math/bits.divideError", "math/bits.overflowError"], plainKeys := false, apart := false, narrowed := true }
def RepairPayerMatchesReferenceUptoSaid : Prop := repairPayerMatchesReferenceUptoRow.holds Tryz.pinned (OpenSpec.upto repairPayerMatchesReferenceSpec)

/-- 'wagonpoollaw28.RepairFinds', WHERE WHAT IT READS IS OF BULK AT MOST 1048576: true; the input reads as it did. -/
def repairFindsUptoRow : OpenClaim := { program := "ytakhlidbhepogaagreat", sum := "a9f2d34f47e726975d080a8340eae20ccdcf3f335f3a24279814b8dfdfc0a6f5", func := "wagonpool/wagonpoollaw28.RepairFinds", spec := "repairFinds", unfollowed := true, recurses := true, named := ["math/bits.divideError", "math/bits.overflowError"], plainKeys := false, apart := false, narrowed := true }
def RepairFindsUptoSaid : Prop := repairFindsUptoRow.holds Tryz.pinned (OpenSpec.upto repairFindsSpec)

/-- 'wagonpoollaw28.RepairCertain', WHERE WHAT IT READS IS OF BULK AT MOST 1048576: true; the input reads as it did. -/
def repairCertainUptoRow : OpenClaim := { program := "ytakhlidbhepogaagreat", sum := "a9f2d34f47e726975d080a8340eae20ccdcf3f335f3a24279814b8dfdfc0a6f5", func := "wagonpool/wagonpoollaw28.RepairCertain", spec := "repairCertain", unfollowed := true, recurses := true, named := ["math/bits.divideError", "math/bits.overflowError"], plainKeys := false, apart := false, narrowed := true }
def RepairCertainUptoSaid : Prop := repairCertainUptoRow.holds Tryz.pinned (OpenSpec.upto repairCertainSpec)

/-- 'wagonpoollaw28.RepairOrder', WHERE WHAT IT READS IS OF BULK AT MOST 1048576: true; the input reads as it did. -/
def repairOrderUptoRow : OpenClaim := { program := "ytakhlidbhepogaagreat", sum := "a9f2d34f47e726975d080a8340eae20ccdcf3f335f3a24279814b8dfdfc0a6f5", func := "wagonpool/wagonpoollaw28.RepairOrder", spec := "repairOrder", unfollowed := true, recurses := true, named := ["math/bits.divideError", "math/bits.overflowError"], plainKeys := false, apart := false, narrowed := true }
def RepairOrderUptoSaid : Prop := repairOrderUptoRow.holds Tryz.pinned (OpenSpec.upto repairOrderSpec)

/-- 'wagonpoollaw28.RepairBlocks', WHERE WHAT IT READS IS OF BULK AT MOST 1048576: true; the input reads as it did. -/
def repairBlocksUptoRow : OpenClaim := { program := "ytakhlidbhepogaagreat", sum := "a9f2d34f47e726975d080a8340eae20ccdcf3f335f3a24279814b8dfdfc0a6f5", func := "wagonpool/wagonpoollaw28.RepairBlocks", spec := "repairBlocks", unfollowed := true, recurses := true, named := ["math/bits.divideError", "math/bits.overflowError"], plainKeys := false, apart := false, narrowed := true }
def RepairBlocksUptoSaid : Prop := repairBlocksUptoRow.holds Tryz.pinned (OpenSpec.upto repairBlocksSpec)

/-- 'wagonpoollaw28.RepairPays', WHERE WHAT IT READS IS OF BULK AT MOST 1048576: true; the input reads as it did. -/
def repairPaysUptoRow : OpenClaim := { program := "ytakhlidbhepogaagreat", sum := "a9f2d34f47e726975d080a8340eae20ccdcf3f335f3a24279814b8dfdfc0a6f5", func := "wagonpool/wagonpoollaw28.RepairPays", spec := "repairPays", unfollowed := true, recurses := true, named := ["math/bits.divideError", "math/bits.overflowError"], plainKeys := false, apart := false, narrowed := true }
def RepairPaysUptoSaid : Prop := repairPaysUptoRow.holds Tryz.pinned (OpenSpec.upto repairPaysSpec)

end Rows
end Go.Proofs.YtakhlidbhepogaaGreat
