/-
  No cell of these rows narrows 'for every input' (looked for: loops, veiled, ifaces, maps, wideKeys, modest, calm, conditions, laid).
  DERIVED. THE GIVEN ROWS OF THIS SEAT. 6 by the template 'for every input the law returns true; each argument reads behind the call as it read before'; 0 by the template 'total and deterministic' (their statements: YtcofccdjgfgeeaaTotals.lean).
  GIVEN WITH THE SEED: the statements are not yours to turn. If you find one false, say at which input.
  Laid BY PROGRAM, IN A SANDBOX (cutbox-rows.mjs): the forced cells as the released guide's own fill.sh prints them over the translation 9127faea197cd451… (all of the seat's roots in one cut). By AI agents, Wed Nov 11 2026. No macro, syntax, notation, axiom, sorry.
-/
import Derived.Test.YtcofccdjgfgeeaaChecked
import GoSem.Claim
import GoSem.ClaimJoined
import GoSem.ClaimMapViews
import Derived.JoinedTies
import Derived.KernelRfl
namespace Go.Proofs.Ytcofccdjgfgeeaa
/- THE CELL 'sum', in the pinned program and in every row, IS THE sha256 OF THE DUMP (.gsa) THAT YtcofccdjgfgeeaaProg.lean LOADS. Nothing in Lean hashes anything: it is a label: what it is worth is what the hold of that sum in a sandbox is worth. -/
noncomputable def Try.pinned : Pinned := { name := "ytcofccdjgfgeeaa", sum := "9127faea197cd451c4e08a7fd95fe2aa51c7043e8681a49853e80b2a9952c724", checked := Try.checked }
namespace Rows
def none {H : Type} : Left H := { results := [], args := [] }

/-- 'wagonpoollaw37.EmptiesMore': WHATEVER THE INPUT: true; the input reads as it did. -/
def emptiesMoreSpec : ChangeSpec := { name := "emptiesMore", fn := fun _ => fun
  | [d1, d2, d3, d4, d5, d6] => { results := [.lit (.bool true)], args := [d1, d2, d3, d4, d5, d6] }
  | _ => none }
def emptiesMoreRow : OpenClaim := { program := "ytcofccdjgfgeeaa", sum := "9127faea197cd451c4e08a7fd95fe2aa51c7043e8681a49853e80b2a9952c724", func := "wagonpool/wagonpoollaw37.EmptiesMore", spec := "emptiesMore", unfollowed := true, recurses := true, named := ["math/bits.divideError", "math/bits.overflowError"], plainKeys := false, apart := false }
def EmptiesMoreSaid : Prop := emptiesMoreRow.holds Try.pinned (OpenSpec.ofChange emptiesMoreSpec)

/-- ITS FALSE NEIGHBOUR: 'it returns false'. Refute it at one input. -/
def emptiesMoreWrong : ChangeSpec := { name := "emptiesMore", fn := fun _ => fun
  | [d1, d2, d3, d4, d5, d6] => { results := [.lit (.bool false)], args := [d1, d2, d3, d4, d5, d6] }
  | _ => none }
def EmptiesMoreWrongFalsely : Prop := emptiesMoreRow.holds Try.pinned (OpenSpec.ofChange emptiesMoreWrong)

/-- 'wagonpooltop.TopCheapest': WHATEVER THE INPUT: true; the input reads as it did. -/
def topCheapestSpec : ChangeSpec := { name := "topCheapest", fn := fun _ => fun
  | [d1, d2, d3, d4, d5] => { results := [.lit (.bool true)], args := [d1, d2, d3, d4, d5] }
  | _ => none }
def topCheapestRow : OpenClaim := { program := "ytcofccdjgfgeeaa", sum := "9127faea197cd451c4e08a7fd95fe2aa51c7043e8681a49853e80b2a9952c724", func := "wagonpool/wagonpooltop.TopCheapest", spec := "topCheapest", unfollowed := true, recurses := true, named := ["math/bits.divideError", "math/bits.overflowError"], plainKeys := false, apart := false }
def TopCheapestSaid : Prop := topCheapestRow.holds Try.pinned (OpenSpec.ofChange topCheapestSpec)

/-- ITS FALSE NEIGHBOUR: 'it returns false'. Refute it at one input. -/
def topCheapestWrong : ChangeSpec := { name := "topCheapest", fn := fun _ => fun
  | [d1, d2, d3, d4, d5] => { results := [.lit (.bool false)], args := [d1, d2, d3, d4, d5] }
  | _ => none }
def TopCheapestWrongFalsely : Prop := topCheapestRow.holds Try.pinned (OpenSpec.ofChange topCheapestWrong)

/-- 'wagonpoollaw37.EmptiesNetwork': WHATEVER THE INPUT: true; the input reads as it did. -/
def emptiesNetworkSpec : ChangeSpec := { name := "emptiesNetwork", fn := fun _ => fun
  | [d1, d2, d3] => { results := [.lit (.bool true)], args := [d1, d2, d3] }
  | _ => none }
def emptiesNetworkRow : OpenClaim := { program := "ytcofccdjgfgeeaa", sum := "9127faea197cd451c4e08a7fd95fe2aa51c7043e8681a49853e80b2a9952c724", func := "wagonpool/wagonpoollaw37.EmptiesNetwork", spec := "emptiesNetwork", unfollowed := true, recurses := true, named := ["math/bits.divideError", "math/bits.overflowError"], plainKeys := false, apart := false }
def EmptiesNetworkSaid : Prop := emptiesNetworkRow.holds Try.pinned (OpenSpec.ofChange emptiesNetworkSpec)

/-- ITS FALSE NEIGHBOUR: 'it returns false'. Refute it at one input. -/
def emptiesNetworkWrong : ChangeSpec := { name := "emptiesNetwork", fn := fun _ => fun
  | [d1, d2, d3] => { results := [.lit (.bool false)], args := [d1, d2, d3] }
  | _ => none }
def EmptiesNetworkWrongFalsely : Prop := emptiesNetworkRow.holds Try.pinned (OpenSpec.ofChange emptiesNetworkWrong)

/-- 'wagonpoollaw37.EmptiesBuilds': WHATEVER THE INPUT: true; the input reads as it did. -/
def emptiesBuildsSpec : ChangeSpec := { name := "emptiesBuilds", fn := fun _ => fun
  | [d1, d2, d3, d4] => { results := [.lit (.bool true)], args := [d1, d2, d3, d4] }
  | _ => none }
def emptiesBuildsRow : OpenClaim := { program := "ytcofccdjgfgeeaa", sum := "9127faea197cd451c4e08a7fd95fe2aa51c7043e8681a49853e80b2a9952c724", func := "wagonpool/wagonpoollaw37.EmptiesBuilds", spec := "emptiesBuilds", unfollowed := true, recurses := true, named := ["math/bits.divideError", "math/bits.overflowError"], plainKeys := false, apart := false }
def EmptiesBuildsSaid : Prop := emptiesBuildsRow.holds Try.pinned (OpenSpec.ofChange emptiesBuildsSpec)

/-- ITS FALSE NEIGHBOUR: 'it returns false'. Refute it at one input. -/
def emptiesBuildsWrong : ChangeSpec := { name := "emptiesBuilds", fn := fun _ => fun
  | [d1, d2, d3, d4] => { results := [.lit (.bool false)], args := [d1, d2, d3, d4] }
  | _ => none }
def EmptiesBuildsWrongFalsely : Prop := emptiesBuildsRow.holds Try.pinned (OpenSpec.ofChange emptiesBuildsWrong)

/-- 'wagonpoollaw37.EmptiesProves': WHATEVER THE INPUT: true; the input reads as it did. -/
def emptiesProvesSpec : ChangeSpec := { name := "emptiesProves", fn := fun _ => fun
  | [d1, d2, d3, d4, d5] => { results := [.lit (.bool true)], args := [d1, d2, d3, d4, d5] }
  | _ => none }
def emptiesProvesRow : OpenClaim := { program := "ytcofccdjgfgeeaa", sum := "9127faea197cd451c4e08a7fd95fe2aa51c7043e8681a49853e80b2a9952c724", func := "wagonpool/wagonpoollaw37.EmptiesProves", spec := "emptiesProves", unfollowed := true, recurses := true, named := ["math/bits.divideError", "math/bits.overflowError"], plainKeys := false, apart := false }
def EmptiesProvesSaid : Prop := emptiesProvesRow.holds Try.pinned (OpenSpec.ofChange emptiesProvesSpec)

/-- ITS FALSE NEIGHBOUR: 'it returns false'. Refute it at one input. -/
def emptiesProvesWrong : ChangeSpec := { name := "emptiesProves", fn := fun _ => fun
  | [d1, d2, d3, d4, d5] => { results := [.lit (.bool false)], args := [d1, d2, d3, d4, d5] }
  | _ => none }
def EmptiesProvesWrongFalsely : Prop := emptiesProvesRow.holds Try.pinned (OpenSpec.ofChange emptiesProvesWrong)

/-- 'wagonpoollaw37.EmptiesRepairs': WHATEVER THE INPUT: true; the input reads as it did. -/
def emptiesRepairsSpec : ChangeSpec := { name := "emptiesRepairs", fn := fun _ => fun
  | [d1, d2, d3, d4] => { results := [.lit (.bool true)], args := [d1, d2, d3, d4] }
  | _ => none }
def emptiesRepairsRow : OpenClaim := { program := "ytcofccdjgfgeeaa", sum := "9127faea197cd451c4e08a7fd95fe2aa51c7043e8681a49853e80b2a9952c724", func := "wagonpool/wagonpoollaw37.EmptiesRepairs", spec := "emptiesRepairs", unfollowed := true, recurses := true, named := ["math/bits.divideError", "math/bits.overflowError"], plainKeys := false, apart := false }
def EmptiesRepairsSaid : Prop := emptiesRepairsRow.holds Try.pinned (OpenSpec.ofChange emptiesRepairsSpec)

/-- ITS FALSE NEIGHBOUR: 'it returns false'. Refute it at one input. -/
def emptiesRepairsWrong : ChangeSpec := { name := "emptiesRepairs", fn := fun _ => fun
  | [d1, d2, d3, d4] => { results := [.lit (.bool false)], args := [d1, d2, d3, d4] }
  | _ => none }
def EmptiesRepairsWrongFalsely : Prop := emptiesRepairsRow.holds Try.pinned (OpenSpec.ofChange emptiesRepairsWrong)

/- THE SECOND FORM. 'bulk': how many values and letters a reading holds, each counted each time it is reached (what is shared counts as often as it is met; a slice's spare places count too). A statement '..UptoSaid' is the law's where the arguments, and the package variables that the reading takes, are together of bulk at most 1048576: NARROWER than '..Said'. Prove '..Said' where nothing that the law and all that it calls make is longer than what came in: it says more and counts as full. Else prove '..UptoSaid'. A law counts once. -/
mutual
def uptoBulk {H : Type} : DataW H → Nat
  | .lit (.string bytes) => bytes.length + 1
  | .lit _ => 1
  | .nil => 1
  | .ptr d => uptoBulk d + 1
  | .slice elems spare => uptoBulkAll elems + uptoBulkAll spare + 1
  | .agg parts => uptoBulkAll parts + 1
  | .iface _ d => uptoBulk d + 1
  | .map entries => uptoBulkEntries entries + 1
  | .held _ => 1
def uptoBulkAll {H : Type} : List (DataW H) → Nat
  | [] => 0
  | d :: r => uptoBulk d + uptoBulkAll r
def uptoBulkEntries {H : Type} : List (Lit × DataW H) → Nat
  | [] => 0
  | x :: r => uptoBulkEntry x + uptoBulkEntries r
def uptoBulkEntry {H : Type} : Lit × DataW H → Nat
  | (.string bytes, d) => bytes.length + uptoBulk d + 1
  | (_, d) => uptoBulk d + 1
 end
def uptoSmall : (H : Type) → List (DataW H) → Bool := fun _ ds => decide (uptoBulkAll ds ≤ 1048576)
def OpenSpec.upto (s : _root_.Go.ChangeSpec) : _root_.Go.OpenSpec := { _root_.Go.OpenSpec.ofChange s with cond := some uptoSmall }

/-- 'wagonpoollaw37.EmptiesMore', WHERE WHAT IT READS IS OF BULK AT MOST 1048576: true; the input reads as it did. -/
def emptiesMoreUptoRow : OpenClaim := { program := "ytcofccdjgfgeeaa", sum := "9127faea197cd451c4e08a7fd95fe2aa51c7043e8681a49853e80b2a9952c724", func := "wagonpool/wagonpoollaw37.EmptiesMore", spec := "emptiesMore", unfollowed := true, recurses := true, named := ["math/bits.divideError", "math/bits.overflowError"], plainKeys := false, apart := false, narrowed := true }
def EmptiesMoreUptoSaid : Prop := emptiesMoreUptoRow.holds Try.pinned (OpenSpec.upto emptiesMoreSpec)

/-- 'wagonpooltop.TopCheapest', WHERE WHAT IT READS IS OF BULK AT MOST 1048576: true; the input reads as it did. -/
def topCheapestUptoRow : OpenClaim := { program := "ytcofccdjgfgeeaa", sum := "9127faea197cd451c4e08a7fd95fe2aa51c7043e8681a49853e80b2a9952c724", func := "wagonpool/wagonpooltop.TopCheapest", spec := "topCheapest", unfollowed := true, recurses := true, named := ["math/bits.divideError", "math/bits.overflowError"], plainKeys := false, apart := false, narrowed := true }
def TopCheapestUptoSaid : Prop := topCheapestUptoRow.holds Try.pinned (OpenSpec.upto topCheapestSpec)

/-- 'wagonpoollaw37.EmptiesNetwork', WHERE WHAT IT READS IS OF BULK AT MOST 1048576: true; the input reads as it did. -/
def emptiesNetworkUptoRow : OpenClaim := { program := "ytcofccdjgfgeeaa", sum := "9127faea197cd451c4e08a7fd95fe2aa51c7043e8681a49853e80b2a9952c724", func := "wagonpool/wagonpoollaw37.EmptiesNetwork", spec := "emptiesNetwork", unfollowed := true, recurses := true, named := ["math/bits.divideError", "math/bits.overflowError"], plainKeys := false, apart := false, narrowed := true }
def EmptiesNetworkUptoSaid : Prop := emptiesNetworkUptoRow.holds Try.pinned (OpenSpec.upto emptiesNetworkSpec)

/-- 'wagonpoollaw37.EmptiesBuilds', WHERE WHAT IT READS IS OF BULK AT MOST 1048576: true; the input reads as it did. -/
def emptiesBuildsUptoRow : OpenClaim := { program := "ytcofccdjgfgeeaa", sum := "9127faea197cd451c4e08a7fd95fe2aa51c7043e8681a49853e80b2a9952c724", func := "wagonpool/wagonpoollaw37.EmptiesBuilds", spec := "emptiesBuilds", unfollowed := true, recurses := true, named := ["math/bits.divideError", "math/bits.overflowError"], plainKeys := false, apart := false, narrowed := true }
def EmptiesBuildsUptoSaid : Prop := emptiesBuildsUptoRow.holds Try.pinned (OpenSpec.upto emptiesBuildsSpec)

/-- 'wagonpoollaw37.EmptiesProves', WHERE WHAT IT READS IS OF BULK AT MOST 1048576: true; the input reads as it did. -/
def emptiesProvesUptoRow : OpenClaim := { program := "ytcofccdjgfgeeaa", sum := "9127faea197cd451c4e08a7fd95fe2aa51c7043e8681a49853e80b2a9952c724", func := "wagonpool/wagonpoollaw37.EmptiesProves", spec := "emptiesProves", unfollowed := true, recurses := true, named := ["math/bits.divideError", "math/bits.overflowError"], plainKeys := false, apart := false, narrowed := true }
def EmptiesProvesUptoSaid : Prop := emptiesProvesUptoRow.holds Try.pinned (OpenSpec.upto emptiesProvesSpec)

/-- 'wagonpoollaw37.EmptiesRepairs', WHERE WHAT IT READS IS OF BULK AT MOST 1048576: true; the input reads as it did. -/
def emptiesRepairsUptoRow : OpenClaim := { program := "ytcofccdjgfgeeaa", sum := "9127faea197cd451c4e08a7fd95fe2aa51c7043e8681a49853e80b2a9952c724", func := "wagonpool/wagonpoollaw37.EmptiesRepairs", spec := "emptiesRepairs", unfollowed := true, recurses := true, named := ["math/bits.divideError", "math/bits.overflowError"], plainKeys := false, apart := false, narrowed := true }
def EmptiesRepairsUptoSaid : Prop := emptiesRepairsUptoRow.holds Try.pinned (OpenSpec.upto emptiesRepairsSpec)

end Rows
end Go.Proofs.Ytcofccdjgfgeeaa
