/-
  No cell of these rows narrows 'for every input' (looked for: loops, veiled, ifaces, maps, wideKeys, modest, calm, conditions, laid).
  DERIVED. THE GIVEN ROWS OF THIS SEAT. 5 by the template 'for every input the law returns true; each argument reads behind the call as it read before'; 0 by the template 'total and deterministic' (their statements: YtlejlmkoalncgaaGreatTotals.lean).
  GIVEN WITH THE SEED: the statements are not yours to turn. If you find one false, say at which input.
  Laid BY PROGRAM, IN A SANDBOX (cutbox-rows.mjs): the forced cells as the released guide's own fill.sh prints them over the translation 35d0c0d607d4aaee… (all of the seat's roots in one cut). By AI agents, Wed Nov 11 2026. No macro, syntax, notation, axiom, sorry.
-/
import Derived.Test.YtlejlmkoalncgaaGreatChecked
import GoSem.Claim
import GoSem.ClaimJoined
import GoSem.ClaimMapViews
import Derived.JoinedTies
import Derived.KernelRfl
namespace Go.Proofs.YtlejlmkoalncgaaGreat
/- THE CELL 'sum', in the pinned program and in every row, IS THE sha256 OF THE DUMP (.gsa) THAT YtlejlmkoalncgaaGreatProg.lean LOADS. Nothing in Lean hashes anything: it is a label: what it is worth is what the hold of that sum in a sandbox is worth. -/
noncomputable def Tryz.pinned : Pinned := { name := "ytlejlmkoalncgaagreat", sum := "35d0c0d607d4aaee3c5c5bbbbe111bd9e1dab5a5cd7f87a3e2516401bc96d6ba", checked := Tryz.checked }
namespace Rows
def none {H : Type} : Left H := { results := [], args := [] }

/-- 'wagonpoollaw24.SightMatches': WHATEVER THE INPUT: true; the input reads as it did. -/
def sightMatchesSpec : ChangeSpec := { name := "sightMatches", fn := fun _ => fun
  | [d1, d2, d3, d4] => { results := [.lit (.bool true)], args := [d1, d2, d3, d4] }
  | _ => none }
def sightMatchesRow : OpenClaim := { program := "ytlejlmkoalncgaagreat", sum := "35d0c0d607d4aaee3c5c5bbbbe111bd9e1dab5a5cd7f87a3e2516401bc96d6ba", func := "wagonpool/wagonpoollaw24.SightMatches", spec := "sightMatches", unfollowed := true, recurses := true, named := ["math/bits.divideError", "math/bits.overflowError"], plainKeys := false, apart := false }
def SightMatchesSaid : Prop := sightMatchesRow.holds Tryz.pinned (OpenSpec.ofChange sightMatchesSpec)

/-- ITS FALSE NEIGHBOUR: 'it returns false'. Refute it at one input. -/
def sightMatchesWrong : ChangeSpec := { name := "sightMatches", fn := fun _ => fun
  | [d1, d2, d3, d4] => { results := [.lit (.bool false)], args := [d1, d2, d3, d4] }
  | _ => none }
def SightMatchesWrongFalsely : Prop := sightMatchesRow.holds Tryz.pinned (OpenSpec.ofChange sightMatchesWrong)

/-- 'wagonpoollaw24.SightCounts': WHATEVER THE INPUT: true; the input reads as it did. -/
def sightCountsSpec : ChangeSpec := { name := "sightCounts", fn := fun _ => fun
  | [d1, d2, d3, d4] => { results := [.lit (.bool true)], args := [d1, d2, d3, d4] }
  | _ => none }
def sightCountsRow : OpenClaim := { program := "ytlejlmkoalncgaagreat", sum := "35d0c0d607d4aaee3c5c5bbbbe111bd9e1dab5a5cd7f87a3e2516401bc96d6ba", func := "wagonpool/wagonpoollaw24.SightCounts", spec := "sightCounts", unfollowed := true, recurses := true, named := ["math/bits.divideError", "math/bits.overflowError"], plainKeys := false, apart := false }
def SightCountsSaid : Prop := sightCountsRow.holds Tryz.pinned (OpenSpec.ofChange sightCountsSpec)

/-- ITS FALSE NEIGHBOUR: 'it returns false'. Refute it at one input. -/
def sightCountsWrong : ChangeSpec := { name := "sightCounts", fn := fun _ => fun
  | [d1, d2, d3, d4] => { results := [.lit (.bool false)], args := [d1, d2, d3, d4] }
  | _ => none }
def SightCountsWrongFalsely : Prop := sightCountsRow.holds Tryz.pinned (OpenSpec.ofChange sightCountsWrong)

/-- 'wagonpoollaw24.SightTruth': WHATEVER THE INPUT: true; the input reads as it did. -/
def sightTruthSpec : ChangeSpec := { name := "sightTruth", fn := fun _ => fun
  | [d1, d2, d3, d4] => { results := [.lit (.bool true)], args := [d1, d2, d3, d4] }
  | _ => none }
def sightTruthRow : OpenClaim := { program := "ytlejlmkoalncgaagreat", sum := "35d0c0d607d4aaee3c5c5bbbbe111bd9e1dab5a5cd7f87a3e2516401bc96d6ba", func := "wagonpool/wagonpoollaw24.SightTruth", spec := "sightTruth", unfollowed := true, recurses := true, named := ["math/bits.divideError", "math/bits.overflowError"], plainKeys := false, apart := false }
def SightTruthSaid : Prop := sightTruthRow.holds Tryz.pinned (OpenSpec.ofChange sightTruthSpec)

/-- ITS FALSE NEIGHBOUR: 'it returns false'. Refute it at one input. -/
def sightTruthWrong : ChangeSpec := { name := "sightTruth", fn := fun _ => fun
  | [d1, d2, d3, d4] => { results := [.lit (.bool false)], args := [d1, d2, d3, d4] }
  | _ => none }
def SightTruthWrongFalsely : Prop := sightTruthRow.holds Tryz.pinned (OpenSpec.ofChange sightTruthWrong)

/-- 'wagonpoollaw24.SightTravels': WHATEVER THE INPUT: true; the input reads as it did. -/
def sightTravelsSpec : ChangeSpec := { name := "sightTravels", fn := fun _ => fun
  | [d1, d2] => { results := [.lit (.bool true)], args := [d1, d2] }
  | _ => none }
def sightTravelsRow : OpenClaim := { program := "ytlejlmkoalncgaagreat", sum := "35d0c0d607d4aaee3c5c5bbbbe111bd9e1dab5a5cd7f87a3e2516401bc96d6ba", func := "wagonpool/wagonpoollaw24.SightTravels", spec := "sightTravels", unfollowed := true, recurses := true, named := ["math/bits.divideError", "math/bits.overflowError"], plainKeys := false, apart := false }
def SightTravelsSaid : Prop := sightTravelsRow.holds Tryz.pinned (OpenSpec.ofChange sightTravelsSpec)

/-- ITS FALSE NEIGHBOUR: 'it returns false'. Refute it at one input. -/
def sightTravelsWrong : ChangeSpec := { name := "sightTravels", fn := fun _ => fun
  | [d1, d2] => { results := [.lit (.bool false)], args := [d1, d2] }
  | _ => none }
def SightTravelsWrongFalsely : Prop := sightTravelsRow.holds Tryz.pinned (OpenSpec.ofChange sightTravelsWrong)

/-- 'wagonpoollaw24.SightStays': WHATEVER THE INPUT: true; the input reads as it did. -/
def sightStaysSpec : ChangeSpec := { name := "sightStays", fn := fun _ => fun
  | [d1, d2] => { results := [.lit (.bool true)], args := [d1, d2] }
  | _ => none }
def sightStaysRow : OpenClaim := { program := "ytlejlmkoalncgaagreat", sum := "35d0c0d607d4aaee3c5c5bbbbe111bd9e1dab5a5cd7f87a3e2516401bc96d6ba", func := "wagonpool/wagonpoollaw24.SightStays", spec := "sightStays", unfollowed := true, recurses := true, named := ["math/bits.divideError", "math/bits.overflowError"], plainKeys := false, apart := false }
def SightStaysSaid : Prop := sightStaysRow.holds Tryz.pinned (OpenSpec.ofChange sightStaysSpec)

/-- ITS FALSE NEIGHBOUR: 'it returns false'. Refute it at one input. -/
def sightStaysWrong : ChangeSpec := { name := "sightStays", fn := fun _ => fun
  | [d1, d2] => { results := [.lit (.bool false)], args := [d1, d2] }
  | _ => none }
def SightStaysWrongFalsely : Prop := sightStaysRow.holds Tryz.pinned (OpenSpec.ofChange sightStaysWrong)

/- THE SECOND FORM. 'bulk': how many values and letters a reading holds, each counted each time it is reached (what is shared counts as often as it is met; a slice's spare places count too). A statement '..UptoSaid' is the law's where the arguments, and the package variables that the reading takes, are together of bulk at most 1048576: NARROWER than '..Said'. Prove '..Said' where nothing that the law and all that it calls make is longer than what came in: it says more and counts as full. Else prove '..UptoSaid'. A law counts once. -/
mutual
def uptoBulk {H : Type} : DataW H → Nat
  | .lit (.string bytes) => bytes.length + 1
  | .lit _ => 1
  | .nil => 1
  | .ptr d => uptoBulk d + 1
  | .slice elems spare => uptoBulkAll elems + uptoBulkAll spare + 1
  | .agg parts => uptoBulkAll parts + 1
  | .iface _ d => uptoBulk d + 1
  | .map entries => uptoBulkEntries entries + 1
  | .held _ => 1
def uptoBulkAll {H : Type} : List (DataW H) → Nat
  | [] => 0
  | d :: r => uptoBulk d + uptoBulkAll r
def uptoBulkEntries {H : Type} : List (Lit × DataW H) → Nat
  | [] => 0
  | x :: r => uptoBulkEntry x + uptoBulkEntries r
def uptoBulkEntry {H : Type} : Lit × DataW H → Nat
  | (.string bytes, d) => bytes.length + uptoBulk d + 1
  | (_, d) => uptoBulk d + 1
 end
def uptoSmall : (H : Type) → List (DataW H) → Bool := fun _ ds => decide (uptoBulkAll ds ≤ 1048576)
def OpenSpec.upto (s : _root_.Go.ChangeSpec) : _root_.Go.OpenSpec := { _root_.Go.OpenSpec.ofChange s with cond := some uptoSmall }

/-- 'wagonpoollaw24.SightMatches', WHERE WHAT IT READS IS OF BULK AT MOST 1048576: true; the input reads as it did. -/
def sightMatchesUptoRow : OpenClaim := { program := "ytlejlmkoalncgaagreat", sum := "35d0c0d607d4aaee3c5c5bbbbe111bd9e1dab5a5cd7f87a3e2516401bc96d6ba", func := "wagonpool/wagonpoollaw24.SightMatches", spec := "sightMatches", unfollowed := true, recurses := true, named := ["math/bits.divideError", "math/bits.overflowError"], plainKeys := false, apart := false, narrowed := true }
def SightMatchesUptoSaid : Prop := sightMatchesUptoRow.holds Tryz.pinned (OpenSpec.upto sightMatchesSpec)

/-- 'wagonpoollaw24.SightCounts', WHERE WHAT IT READS IS OF BULK AT MOST 1048576: true; the input reads as it did. -/
def sightCountsUptoRow : OpenClaim := { program := "ytlejlmkoalncgaagreat", sum := "35d0c0d607d4aaee3c5c5bbbbe111bd9e1dab5a5cd7f87a3e2516401bc96d6ba", func := "wagonpool/wagonpoollaw24.SightCounts", spec := "sightCounts", unfollowed := true, recurses := true, named := ["math/bits.divideError", "math/bits.overflowError"], plainKeys := false, apart := false, narrowed := true }
def SightCountsUptoSaid : Prop := sightCountsUptoRow.holds Tryz.pinned (OpenSpec.upto sightCountsSpec)

/-- 'wagonpoollaw24.SightTruth', WHERE WHAT IT READS IS OF BULK AT MOST 1048576: true; the input reads as it did. -/
def sightTruthUptoRow : OpenClaim := { program := "ytlejlmkoalncgaagreat", sum := "35d0c0d607d4aaee3c5c5bbbbe111bd9e1dab5a5cd7f87a3e2516401bc96d6ba", func := "wagonpool/wagonpoollaw24.SightTruth", spec := "sightTruth", unfollowed := true, recurses := true, named := ["math/bits.divideError", "math/bits.overflowError"], plainKeys := false, apart := false, narrowed := true }
def SightTruthUptoSaid : Prop := sightTruthUptoRow.holds Tryz.pinned (OpenSpec.upto sightTruthSpec)

/-- 'wagonpoollaw24.SightTravels', WHERE WHAT IT READS IS OF BULK AT MOST 1048576: true; the input reads as it did. -/
def sightTravelsUptoRow : OpenClaim := { program := "ytlejlmkoalncgaagreat", sum := "35d0c0d607d4aaee3c5c5bbbbe111bd9e1dab5a5cd7f87a3e2516401bc96d6ba", func := "wagonpool/wagonpoollaw24.SightTravels", spec := "sightTravels", unfollowed := true, recurses := true, named := ["math/bits.divideError", "math/bits.overflowError"], plainKeys := false, apart := false, narrowed := true }
def SightTravelsUptoSaid : Prop := sightTravelsUptoRow.holds Tryz.pinned (OpenSpec.upto sightTravelsSpec)

/-- 'wagonpoollaw24.SightStays', WHERE WHAT IT READS IS OF BULK AT MOST 1048576: true; the input reads as it did. -/
def sightStaysUptoRow : OpenClaim := { program := "ytlejlmkoalncgaagreat", sum := "35d0c0d607d4aaee3c5c5bbbbe111bd9e1dab5a5cd7f87a3e2516401bc96d6ba", func := "wagonpool/wagonpoollaw24.SightStays", spec := "sightStays", unfollowed := true, recurses := true, named := ["math/bits.divideError", "math/bits.overflowError"], plainKeys := false, apart := false, narrowed := true }
def SightStaysUptoSaid : Prop := sightStaysUptoRow.holds Tryz.pinned (OpenSpec.upto sightStaysSpec)

end Rows
end Go.Proofs.YtlejlmkoalncgaaGreat
