/-
  No cell of these rows narrows 'for every input' (looked for: loops, veiled, ifaces, maps, wideKeys, modest, calm, conditions, laid).
  DERIVED. THE GIVEN ROWS OF THIS SEAT. 7 by the template 'for every input the law returns true; each argument reads behind the call as it read before'; 0 by the template 'total and deterministic' (their statements: YtbfoamlmlbmmnaaTotals.lean).
  GIVEN WITH THE SEED: the statements are not yours to turn. If you find one false, say at which input.
  Laid BY PROGRAM, IN A SANDBOX (cutbox-rows.mjs): the forced cells as the released guide's own fill.sh prints them over the translation b175132bbdb2b1d6… (all of the seat's roots in one cut). By AI agents, Wed Nov 11 2026. No macro, syntax, notation, axiom, sorry.
-/
import Derived.Test.YtbfoamlmlbmmnaaChecked
import GoSem.Claim
import GoSem.ClaimJoined
import GoSem.ClaimMapViews
import Derived.JoinedTies
import Derived.KernelRfl
namespace Go.Proofs.Ytbfoamlmlbmmnaa
/- THE CELL 'sum', in the pinned program and in every row, IS THE sha256 OF THE DUMP (.gsa) THAT YtbfoamlmlbmmnaaProg.lean LOADS. Nothing in Lean hashes anything: it is a label: what it is worth is what the hold of that sum in a sandbox is worth. -/
noncomputable def Try.pinned : Pinned := { name := "ytbfoamlmlbmmnaa", sum := "b175132bbdb2b1d68cf0c6a89232a881e2bbad55d5b8d7ab83d1eed16b578827", checked := Try.checked }
namespace Rows
def none {H : Type} : Left H := { results := [], args := [] }

/-- 'wagonpoollaw09.FleetMatches': WHATEVER THE INPUT: true; the input reads as it did. -/
def fleetMatchesSpec : ChangeSpec := { name := "fleetMatches", fn := fun _ => fun
  | [d1, d2] => { results := [.lit (.bool true)], args := [d1, d2] }
  | _ => none }
def fleetMatchesRow : OpenClaim := { program := "ytbfoamlmlbmmnaa", sum := "b175132bbdb2b1d68cf0c6a89232a881e2bbad55d5b8d7ab83d1eed16b578827", func := "wagonpool/wagonpoollaw09.FleetMatches", spec := "fleetMatches", unfollowed := true, recurses := true, named := ["math/bits.divideError", "math/bits.overflowError"], apart := false }
def FleetMatchesSaid : Prop := fleetMatchesRow.holds Try.pinned (OpenSpec.ofChange fleetMatchesSpec)

/-- ITS FALSE NEIGHBOUR: 'it returns false'. Refute it at one input. -/
def fleetMatchesWrong : ChangeSpec := { name := "fleetMatches", fn := fun _ => fun
  | [d1, d2] => { results := [.lit (.bool false)], args := [d1, d2] }
  | _ => none }
def FleetMatchesWrongFalsely : Prop := fleetMatchesRow.holds Try.pinned (OpenSpec.ofChange fleetMatchesWrong)

/-- 'wagonpoollaw09.FleetCheapest': WHATEVER THE INPUT: true; the input reads as it did. -/
def fleetCheapestSpec : ChangeSpec := { name := "fleetCheapest", fn := fun _ => fun
  | [d1, d2] => { results := [.lit (.bool true)], args := [d1, d2] }
  | _ => none }
def fleetCheapestRow : OpenClaim := { program := "ytbfoamlmlbmmnaa", sum := "b175132bbdb2b1d68cf0c6a89232a881e2bbad55d5b8d7ab83d1eed16b578827", func := "wagonpool/wagonpoollaw09.FleetCheapest", spec := "fleetCheapest", unfollowed := true, recurses := true, named := ["math/bits.divideError", "math/bits.overflowError"], apart := false }
def FleetCheapestSaid : Prop := fleetCheapestRow.holds Try.pinned (OpenSpec.ofChange fleetCheapestSpec)

/-- ITS FALSE NEIGHBOUR: 'it returns false'. Refute it at one input. -/
def fleetCheapestWrong : ChangeSpec := { name := "fleetCheapest", fn := fun _ => fun
  | [d1, d2] => { results := [.lit (.bool false)], args := [d1, d2] }
  | _ => none }
def FleetCheapestWrongFalsely : Prop := fleetCheapestRow.holds Try.pinned (OpenSpec.ofChange fleetCheapestWrong)

/-- 'wagonpoollaw09.FleetTransitive': WHATEVER THE INPUT: true; the input reads as it did. -/
def fleetTransitiveSpec : ChangeSpec := { name := "fleetTransitive", fn := fun _ => fun
  | [d1, d2] => { results := [.lit (.bool true)], args := [d1, d2] }
  | _ => none }
def fleetTransitiveRow : OpenClaim := { program := "ytbfoamlmlbmmnaa", sum := "b175132bbdb2b1d68cf0c6a89232a881e2bbad55d5b8d7ab83d1eed16b578827", func := "wagonpool/wagonpoollaw09.FleetTransitive", spec := "fleetTransitive", unfollowed := true, recurses := true, named := ["math/bits.divideError", "math/bits.overflowError"], apart := false }
def FleetTransitiveSaid : Prop := fleetTransitiveRow.holds Try.pinned (OpenSpec.ofChange fleetTransitiveSpec)

/-- ITS FALSE NEIGHBOUR: 'it returns false'. Refute it at one input. -/
def fleetTransitiveWrong : ChangeSpec := { name := "fleetTransitive", fn := fun _ => fun
  | [d1, d2] => { results := [.lit (.bool false)], args := [d1, d2] }
  | _ => none }
def FleetTransitiveWrongFalsely : Prop := fleetTransitiveRow.holds Try.pinned (OpenSpec.ofChange fleetTransitiveWrong)

/-- 'wagonpoollaw09.FleetWorth': WHATEVER THE INPUT: true; the input reads as it did. -/
def fleetWorthSpec : ChangeSpec := { name := "fleetWorth", fn := fun _ => fun
  | [d1, d2, d3, d4] => { results := [.lit (.bool true)], args := [d1, d2, d3, d4] }
  | _ => none }
def fleetWorthRow : OpenClaim := { program := "ytbfoamlmlbmmnaa", sum := "b175132bbdb2b1d68cf0c6a89232a881e2bbad55d5b8d7ab83d1eed16b578827", func := "wagonpool/wagonpoollaw09.FleetWorth", spec := "fleetWorth", unfollowed := true, recurses := true, named := ["math/bits.divideError", "math/bits.overflowError"], apart := false }
def FleetWorthSaid : Prop := fleetWorthRow.holds Try.pinned (OpenSpec.ofChange fleetWorthSpec)

/-- ITS FALSE NEIGHBOUR: 'it returns false'. Refute it at one input. -/
def fleetWorthWrong : ChangeSpec := { name := "fleetWorth", fn := fun _ => fun
  | [d1, d2, d3, d4] => { results := [.lit (.bool false)], args := [d1, d2, d3, d4] }
  | _ => none }
def FleetWorthWrongFalsely : Prop := fleetWorthRow.holds Try.pinned (OpenSpec.ofChange fleetWorthWrong)

/-- 'wagonpoollaw09.FleetLoads': WHATEVER THE INPUT: true; the input reads as it did. -/
def fleetLoadsSpec : ChangeSpec := { name := "fleetLoads", fn := fun _ => fun
  | [d1, d2, d3, d4, d5] => { results := [.lit (.bool true)], args := [d1, d2, d3, d4, d5] }
  | _ => none }
def fleetLoadsRow : OpenClaim := { program := "ytbfoamlmlbmmnaa", sum := "b175132bbdb2b1d68cf0c6a89232a881e2bbad55d5b8d7ab83d1eed16b578827", func := "wagonpool/wagonpoollaw09.FleetLoads", spec := "fleetLoads", unfollowed := true, recurses := true, named := ["math/bits.divideError", "math/bits.overflowError"], apart := false }
def FleetLoadsSaid : Prop := fleetLoadsRow.holds Try.pinned (OpenSpec.ofChange fleetLoadsSpec)

/-- ITS FALSE NEIGHBOUR: 'it returns false'. Refute it at one input. -/
def fleetLoadsWrong : ChangeSpec := { name := "fleetLoads", fn := fun _ => fun
  | [d1, d2, d3, d4, d5] => { results := [.lit (.bool false)], args := [d1, d2, d3, d4, d5] }
  | _ => none }
def FleetLoadsWrongFalsely : Prop := fleetLoadsRow.holds Try.pinned (OpenSpec.ofChange fleetLoadsWrong)

/-- 'wagonpoollaw09.FleetMatchesPool': WHATEVER THE INPUT: true; the input reads as it did. -/
def fleetMatchesPoolSpec : ChangeSpec := { name := "fleetMatchesPool", fn := fun _ => fun
  | [d] => { results := [.lit (.bool true)], args := [d] }
  | _ => none }
def fleetMatchesPoolRow : OpenClaim := { program := "ytbfoamlmlbmmnaa", sum := "b175132bbdb2b1d68cf0c6a89232a881e2bbad55d5b8d7ab83d1eed16b578827", func := "wagonpool/wagonpoollaw09.FleetMatchesPool", spec := "fleetMatchesPool", unfollowed := true, recurses := true, named := ["math/bits.divideError", "math/bits.overflowError"], apart := false }
def FleetMatchesPoolSaid : Prop := fleetMatchesPoolRow.holds Try.pinned (OpenSpec.ofChange fleetMatchesPoolSpec)

/-- ITS FALSE NEIGHBOUR: 'it returns false'. Refute it at one input. -/
def fleetMatchesPoolWrong : ChangeSpec := { name := "fleetMatchesPool", fn := fun _ => fun
  | [d] => { results := [.lit (.bool false)], args := [d] }
  | _ => none }
def FleetMatchesPoolWrongFalsely : Prop := fleetMatchesPoolRow.holds Try.pinned (OpenSpec.ofChange fleetMatchesPoolWrong)

/-- 'wagonpoollaw09.FleetPoolParts': WHATEVER THE INPUT: true; the input reads as it did. -/
def fleetPoolPartsSpec : ChangeSpec := { name := "fleetPoolParts", fn := fun _ => fun
  | [d1, d2] => { results := [.lit (.bool true)], args := [d1, d2] }
  | _ => none }
def fleetPoolPartsRow : OpenClaim := { program := "ytbfoamlmlbmmnaa", sum := "b175132bbdb2b1d68cf0c6a89232a881e2bbad55d5b8d7ab83d1eed16b578827", func := "wagonpool/wagonpoollaw09.FleetPoolParts", spec := "fleetPoolParts", unfollowed := true, recurses := true, named := ["math/bits.divideError", "math/bits.overflowError"], apart := false }
def FleetPoolPartsSaid : Prop := fleetPoolPartsRow.holds Try.pinned (OpenSpec.ofChange fleetPoolPartsSpec)

/-- ITS FALSE NEIGHBOUR: 'it returns false'. Refute it at one input. -/
def fleetPoolPartsWrong : ChangeSpec := { name := "fleetPoolParts", fn := fun _ => fun
  | [d1, d2] => { results := [.lit (.bool false)], args := [d1, d2] }
  | _ => none }
def FleetPoolPartsWrongFalsely : Prop := fleetPoolPartsRow.holds Try.pinned (OpenSpec.ofChange fleetPoolPartsWrong)

/- THE SECOND FORM. 'bulk': how many values and letters a reading holds, each counted each time it is reached (what is shared counts as often as it is met; a slice's spare places count too). A statement '..UptoSaid' is the law's where the arguments, and the package variables that the reading takes, are together of bulk at most 1048576: NARROWER than '..Said'. Prove '..Said' where nothing that the law and all that it calls make is longer than what came in: it says more and counts as full. Else prove '..UptoSaid'. A law counts once. -/
mutual
def uptoBulk {H : Type} : DataW H → Nat
  | .lit (.string bytes) => bytes.length + 1
  | .lit _ => 1
  | .nil => 1
  | .ptr d => uptoBulk d + 1
  | .slice elems spare => uptoBulkAll elems + uptoBulkAll spare + 1
  | .agg parts => uptoBulkAll parts + 1
  | .iface _ d => uptoBulk d + 1
  | .map entries => uptoBulkEntries entries + 1
  | .held _ => 1
def uptoBulkAll {H : Type} : List (DataW H) → Nat
  | [] => 0
  | d :: r => uptoBulk d + uptoBulkAll r
def uptoBulkEntries {H : Type} : List (Lit × DataW H) → Nat
  | [] => 0
  | x :: r => uptoBulkEntry x + uptoBulkEntries r
def uptoBulkEntry {H : Type} : Lit × DataW H → Nat
  | (.string bytes, d) => bytes.length + uptoBulk d + 1
  | (_, d) => uptoBulk d + 1
 end
def uptoSmall : (H : Type) → List (DataW H) → Bool := fun _ ds => decide (uptoBulkAll ds ≤ 1048576)
def OpenSpec.upto (s : _root_.Go.ChangeSpec) : _root_.Go.OpenSpec := { _root_.Go.OpenSpec.ofChange s with cond := some uptoSmall }

/-- 'wagonpoollaw09.FleetMatches', WHERE WHAT IT READS IS OF BULK AT MOST 1048576: true; the input reads as it did. -/
def fleetMatchesUptoRow : OpenClaim := { program := "ytbfoamlmlbmmnaa", sum := "b175132bbdb2b1d68cf0c6a89232a881e2bbad55d5b8d7ab83d1eed16b578827", func := "wagonpool/wagonpoollaw09.FleetMatches", spec := "fleetMatches", unfollowed := true, recurses := true, named := ["math/bits.divideError", "math/bits.overflowError"], apart := false, narrowed := true }
def FleetMatchesUptoSaid : Prop := fleetMatchesUptoRow.holds Try.pinned (OpenSpec.upto fleetMatchesSpec)

/-- 'wagonpoollaw09.FleetCheapest', WHERE WHAT IT READS IS OF BULK AT MOST 1048576: true; the input reads as it did. -/
def fleetCheapestUptoRow : OpenClaim := { program := "ytbfoamlmlbmmnaa", sum := "b175132bbdb2b1d68cf0c6a89232a881e2bbad55d5b8d7ab83d1eed16b578827", func := "wagonpool/wagonpoollaw09.FleetCheapest", spec := "fleetCheapest", unfollowed := true, recurses := true, named := ["math/bits.divideError", "math/bits.overflowError"], apart := false, narrowed := true }
def FleetCheapestUptoSaid : Prop := fleetCheapestUptoRow.holds Try.pinned (OpenSpec.upto fleetCheapestSpec)

/-- 'wagonpoollaw09.FleetTransitive', WHERE WHAT IT READS IS OF BULK AT MOST 1048576: true; the input reads as it did. -/
def fleetTransitiveUptoRow : OpenClaim := { program := "ytbfoamlmlbmmnaa", sum := "b175132bbdb2b1d68cf0c6a89232a881e2bbad55d5b8d7ab83d1eed16b578827", func := "wagonpool/wagonpoollaw09.FleetTransitive", spec := "fleetTransitive", unfollowed := true, recurses := true, named := ["math/bits.divideError", "math/bits.overflowError"], apart := false, narrowed := true }
def FleetTransitiveUptoSaid : Prop := fleetTransitiveUptoRow.holds Try.pinned (OpenSpec.upto fleetTransitiveSpec)

/-- 'wagonpoollaw09.FleetWorth', WHERE WHAT IT READS IS OF BULK AT MOST 1048576: true; the input reads as it did. -/
def fleetWorthUptoRow : OpenClaim := { program := "ytbfoamlmlbmmnaa", sum := "b175132bbdb2b1d68cf0c6a89232a881e2bbad55d5b8d7ab83d1eed16b578827", func := "wagonpool/wagonpoollaw09.FleetWorth", spec := "fleetWorth", unfollowed := true, recurses := true, named := ["math/bits.divideError", "math/bits.overflowError"], apart := false, narrowed := true }
def FleetWorthUptoSaid : Prop := fleetWorthUptoRow.holds Try.pinned (OpenSpec.upto fleetWorthSpec)

/-- 'wagonpoollaw09.FleetLoads', WHERE WHAT IT READS IS OF BULK AT MOST 1048576: true; the input reads as it did. -/
def fleetLoadsUptoRow : OpenClaim := { program := "ytbfoamlmlbmmnaa", sum := "b175132bbdb2b1d68cf0c6a89232a881e2bbad55d5b8d7ab83d1eed16b578827", func := "wagonpool/wagonpoollaw09.FleetLoads", spec := "fleetLoads", unfollowed := true, recurses := true, named := ["math/bits.divideError", "math/bits.overflowError"], apart := false, narrowed := true }
def FleetLoadsUptoSaid : Prop := fleetLoadsUptoRow.holds Try.pinned (OpenSpec.upto fleetLoadsSpec)

/-- 'wagonpoollaw09.FleetMatchesPool', WHERE WHAT IT READS IS OF BULK AT MOST 1048576: true; the input reads as it did. -/
def fleetMatchesPoolUptoRow : OpenClaim := { program := "ytbfoamlmlbmmnaa", sum := "b175132bbdb2b1d68cf0c6a89232a881e2bbad55d5b8d7ab83d1eed16b578827", func := "wagonpool/wagonpoollaw09.FleetMatchesPool", spec := "fleetMatchesPool", unfollowed := true, recurses := true, named := ["math/bits.divideError", "math/bits.overflowError"], apart := false, narrowed := true }
def FleetMatchesPoolUptoSaid : Prop := fleetMatchesPoolUptoRow.holds Try.pinned (OpenSpec.upto fleetMatchesPoolSpec)

/-- 'wagonpoollaw09.FleetPoolParts', WHERE WHAT IT READS IS OF BULK AT MOST 1048576: true; the input reads as it did. -/
def fleetPoolPartsUptoRow : OpenClaim := { program := "ytbfoamlmlbmmnaa", sum := "b175132bbdb2b1d68cf0c6a89232a881e2bbad55d5b8d7ab83d1eed16b578827", func := "wagonpool/wagonpoollaw09.FleetPoolParts", spec := "fleetPoolParts", unfollowed := true, recurses := true, named := ["math/bits.divideError", "math/bits.overflowError"], apart := false, narrowed := true }
def FleetPoolPartsUptoSaid : Prop := fleetPoolPartsUptoRow.holds Try.pinned (OpenSpec.upto fleetPoolPartsSpec)

end Rows
end Go.Proofs.Ytbfoamlmlbmmnaa
