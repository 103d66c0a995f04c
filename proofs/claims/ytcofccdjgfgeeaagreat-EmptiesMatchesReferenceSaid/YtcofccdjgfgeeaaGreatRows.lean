/-
  No cell of these rows narrows 'for every input' (looked for: loops, veiled, ifaces, maps, wideKeys, modest, calm, conditions, laid).
  DERIVED. THE GIVEN ROWS OF THIS SEAT. 3 by the template 'for every input the law returns true; each argument reads behind the call as it read before'; 0 by the template 'total and deterministic' (their statements: YtcofccdjgfgeeaaGreatTotals.lean).
  GIVEN WITH THE SEED: the statements are not yours to turn. If you find one false, say at which input.
  Laid BY PROGRAM, IN A SANDBOX (cutbox-rows.mjs): the forced cells as the released guide's own fill.sh prints them over the translation 08091f800136fa12… (all of the seat's roots in one cut). By AI agents, Wed Nov 11 2026. No macro, syntax, notation, axiom, sorry.
-/
import Derived.Test.YtcofccdjgfgeeaaGreatChecked
import GoSem.Claim
import GoSem.ClaimJoined
import GoSem.ClaimMapViews
import Derived.JoinedTies
import Derived.KernelRfl
namespace Go.Proofs.YtcofccdjgfgeeaaGreat
/- THE CELL 'sum', in the pinned program and in every row, IS THE sha256 OF THE DUMP (.gsa) THAT YtcofccdjgfgeeaaGreatProg.lean LOADS. Nothing in Lean hashes anything: it is a label: what it is worth is what the hold of that sum in a sandbox is worth. -/
noncomputable def Tryz.pinned : Pinned := { name := "ytcofccdjgfgeeaagreat", sum := "08091f800136fa12787294a32795a015eb58817583d6ff2cb70523553d7658ab", checked := Tryz.checked }
namespace Rows
def none {H : Type} : Left H := { results := [], args := [] }

/-- 'wagonpoollaw37.EmptiesAcceptMatchesReference': WHATEVER THE INPUT: true; the input reads as it did. -/
def emptiesAcceptMatchesReferenceSpec : ChangeSpec := { name := "emptiesAcceptMatchesReference", fn := fun _ => fun
  | [d1, d2, d3, d4] => { results := [.lit (.bool true)], args := [d1, d2, d3, d4] }
  | _ => none }
def emptiesAcceptMatchesReferenceRow : OpenClaim := { program := "ytcofccdjgfgeeaagreat", sum := "08091f800136fa12787294a32795a015eb58817583d6ff2cb70523553d7658ab", func := "wagonpool/wagonpoollaw37.EmptiesAcceptMatchesReference", spec := "emptiesAcceptMatchesReference", unfollowed := true, recurses := true, named := ["math/bits.divideError", "math/bits.overflowError"], plainKeys := false, apart := false }
def EmptiesAcceptMatchesReferenceSaid : Prop := emptiesAcceptMatchesReferenceRow.holds Tryz.pinned (OpenSpec.ofChange emptiesAcceptMatchesReferenceSpec)

/-- ITS FALSE NEIGHBOUR: 'it returns false'. Refute it at one input. -/
def emptiesAcceptMatchesReferenceWrong : ChangeSpec := { name := "emptiesAcceptMatchesReference", fn := fun _ => fun
  | [d1, d2, d3, d4] => { results := [.lit (.bool false)], args := [d1, d2, d3, d4] }
  | _ => none }
def EmptiesAcceptMatchesReferenceWrongFalsely : Prop := emptiesAcceptMatchesReferenceRow.holds Tryz.pinned (OpenSpec.ofChange emptiesAcceptMatchesReferenceWrong)

/-- 'wagonpoollaw37.EmptiesMatchesReference': WHATEVER THE INPUT: true; the input reads as it did. -/
def emptiesMatchesReferenceSpec : ChangeSpec := { name := "emptiesMatchesReference", fn := fun _ => fun
  | [d1, d2, d3, d4, d5] => { results := [.lit (.bool true)], args := [d1, d2, d3, d4, d5] }
  | _ => none }
def emptiesMatchesReferenceRow : OpenClaim := { program := "ytcofccdjgfgeeaagreat", sum := "08091f800136fa12787294a32795a015eb58817583d6ff2cb70523553d7658ab", func := "wagonpool/wagonpoollaw37.EmptiesMatchesReference", spec := "emptiesMatchesReference", unfollowed := true, recurses := true, named := ["math/bits.divideError", "math/bits.overflowError"], plainKeys := false, apart := false }
def EmptiesMatchesReferenceSaid : Prop := emptiesMatchesReferenceRow.holds Tryz.pinned (OpenSpec.ofChange emptiesMatchesReferenceSpec)

/-- ITS FALSE NEIGHBOUR: 'it returns false'. Refute it at one input. -/
def emptiesMatchesReferenceWrong : ChangeSpec := { name := "emptiesMatchesReference", fn := fun _ => fun
  | [d1, d2, d3, d4, d5] => { results := [.lit (.bool false)], args := [d1, d2, d3, d4, d5] }
  | _ => none }
def EmptiesMatchesReferenceWrongFalsely : Prop := emptiesMatchesReferenceRow.holds Tryz.pinned (OpenSpec.ofChange emptiesMatchesReferenceWrong)

/-- 'wagonpoollaw37.EmptiesIdle': WHATEVER THE INPUT: true; the input reads as it did. -/
def emptiesIdleSpec : ChangeSpec := { name := "emptiesIdle", fn := fun _ => fun
  | [d1, d2, d3] => { results := [.lit (.bool true)], args := [d1, d2, d3] }
  | _ => none }
def emptiesIdleRow : OpenClaim := { program := "ytcofccdjgfgeeaagreat", sum := "08091f800136fa12787294a32795a015eb58817583d6ff2cb70523553d7658ab", func := "wagonpool/wagonpoollaw37.EmptiesIdle", spec := "emptiesIdle", unfollowed := true, recurses := true, named := ["math/bits.divideError", "math/bits.overflowError"], plainKeys := false, apart := false }
def EmptiesIdleSaid : Prop := emptiesIdleRow.holds Tryz.pinned (OpenSpec.ofChange emptiesIdleSpec)

/-- ITS FALSE NEIGHBOUR: 'it returns false'. Refute it at one input. -/
def emptiesIdleWrong : ChangeSpec := { name := "emptiesIdle", fn := fun _ => fun
  | [d1, d2, d3] => { results := [.lit (.bool false)], args := [d1, d2, d3] }
  | _ => none }
def EmptiesIdleWrongFalsely : Prop := emptiesIdleRow.holds Tryz.pinned (OpenSpec.ofChange emptiesIdleWrong)

/- THE SECOND FORM. 'bulk': how many values and letters a reading holds, each counted each time it is reached (what is shared counts as often as it is met; a slice's spare places count too). A statement '..UptoSaid' is the law's where the arguments, and the package variables that the reading takes, are together of bulk at most 1048576: NARROWER than '..Said'. Prove '..Said' where nothing that the law and all that it calls make is longer than what came in: it says more and counts as full. Else prove '..UptoSaid'. A law counts once. -/
mutual
def uptoBulk {H : Type} : DataW H → Nat
  | .lit (.string bytes) => bytes.length + 1
  | .lit _ => 1
  | .nil => 1
  | .ptr d => uptoBulk d + 1
  | .slice elems spare => uptoBulkAll elems + uptoBulkAll spare + 1
  | .agg parts => uptoBulkAll parts + 1
  | .iface _ d => uptoBulk d + 1
  | .map entries => uptoBulkEntries entries + 1
  | .held _ => 1
def uptoBulkAll {H : Type} : List (DataW H) → Nat
  | [] => 0
  | d :: r => uptoBulk d + uptoBulkAll r
def uptoBulkEntries {H : Type} : List (Lit × DataW H) → Nat
  | [] => 0
  | x :: r => uptoBulkEntry x + uptoBulkEntries r
def uptoBulkEntry {H : Type} : Lit × DataW H → Nat
  | (.string bytes, d) => bytes.length + uptoBulk d + 1
  | (_, d) => uptoBulk d + 1
 end
def uptoSmall : (H : Type) → List (DataW H) → Bool := fun _ ds => decide (uptoBulkAll ds ≤ 1048576)
def OpenSpec.upto (s : _root_.Go.ChangeSpec) : _root_.Go.OpenSpec := { _root_.Go.OpenSpec.ofChange s with cond := some uptoSmall }

/-- 'wagonpoollaw37.EmptiesAcceptMatchesReference', WHERE WHAT IT READS IS OF BULK AT MOST 1048576: true; the input reads as it did. -/
def emptiesAcceptMatchesReferenceUptoRow : OpenClaim := { program := "ytcofccdjgfgeeaagreat", sum := "08091f800136fa12787294a32795a015eb58817583d6ff2cb70523553d7658ab", func := "wagonpool/wagonpoollaw37.EmptiesAcceptMatchesReference", spec := "emptiesAcceptMatchesReference", unfollowed := true, recurses := true, named := ["math/bits.divideError", "math/bits.overflowError"], plainKeys := false, apart := false, narrowed := true }
def EmptiesAcceptMatchesReferenceUptoSaid : Prop := emptiesAcceptMatchesReferenceUptoRow.holds Tryz.pinned (OpenSpec.upto emptiesAcceptMatchesReferenceSpec)

/-- 'wagonpoollaw37.EmptiesMatchesReference', WHERE WHAT IT READS IS OF BULK AT MOST 1048576: true; the input reads as it did. -/
def emptiesMatchesReferenceUptoRow : OpenClaim := { program := "ytcofccdjgfgeeaagreat", sum := "08091f800136fa12787294a32795a015eb58817583d6ff2cb70523553d7658ab", func := "wagonpool/wagonpoollaw37.EmptiesMatchesReference", spec := "emptiesMatchesReference", unfollowed := true, recurses := true, named := ["math/bits.divideError", "math/bits.overflowError"], plainKeys := false, apart := false, narrowed := true }
def EmptiesMatchesReferenceUptoSaid : Prop := emptiesMatchesReferenceUptoRow.holds Tryz.pinned (OpenSpec.upto emptiesMatchesReferenceSpec)

/-- 'wagonpoollaw37.EmptiesIdle', WHERE WHAT IT READS IS OF BULK AT MOST 1048576: true; the input reads as it did. -/
def emptiesIdleUptoRow : OpenClaim := { program := "ytcofccdjgfgeeaagreat", sum := "08091f800136fa12787294a32795a015eb58817583d6ff2cb70523553d7658ab", func := "wagonpool/wagonpoollaw37.EmptiesIdle", spec := "emptiesIdle", unfollowed := true, recurses := true, named := ["math/bits.divideError", "math/bits.overflowError"], plainKeys := false, apart := false, narrowed := true }
def EmptiesIdleUptoSaid : Prop := emptiesIdleUptoRow.holds Tryz.pinned (OpenSpec.upto emptiesIdleSpec)

end Rows
end Go.Proofs.YtcofccdjgfgeeaaGreat
