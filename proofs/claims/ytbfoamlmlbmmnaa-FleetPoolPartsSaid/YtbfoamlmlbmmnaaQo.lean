/- What the arguments of the laws can be. Conditions: none. -/
import Derived.Test.YtbfoamlmlbmmnaaQb
import Derived.Test.YtbfoamlmlbmmnaaPn
import Derived.Test.YtbfoamlmlbmmnaaProg
import Derived.KernelRfl
set_option linter.unusedVariables false
set_option linter.unusedSimpArgs false
set_option maxHeartbeats 4000000
set_option maxRecDepth 100000
namespace Px
open Go Go.RowKit Go.Proofs
def RWagonType (x : WagonType) : Prop := RI .i64 x.fLoad ∧ RI .i64 x.fTare ∧ RI .i64 x.fLength ∧ RI .i64 x.fGauge ∧ RI .i64 x.fBrake ∧ RI .u64 x.fClasses ∧ RI .i64 x.fLife ∧ RI .i64 x.fFloor ∧ True
def RWagon (x : Wagon) : Prop := RI .i64 x.fType ∧ RI .i64 x.fOwner ∧ RI .i64 x.fHome ∧ RI .i64 x.fBuilt ∧ RI .i64 x.fWorth ∧ True
def RSwap (x : Swap) : Prop := RI .i64 x.fWanted ∧ RI .i64 x.fGiven ∧ RI .i64 x.fCost ∧ True
def RWash (x : Wash) : Prop := RI .i64 x.fFrom ∧ RI .i64 x.fTo ∧ RI .i64 x.fMinutes ∧ True
def RFleet (x : Fleet) : Prop := (RL (RWagonType)) x.fTypes ∧ (RL (RWagon)) x.fWagons ∧ (RL (RSwap)) x.fSwaps ∧ (RL (RWash)) x.fWashes ∧ True
def Rlaw09_Question (x : law09_Question) : Prop := RI .i64 x.fWagon ∧ RI .i64 x.fClass ∧ RI .i64 x.fWeight ∧ RI .i64 x.fWanted ∧ RI .i64 x.fTo ∧ RI .i64 x.fAt ∧ True
def RPlace (x : Place) : Prop := RI .i64 x.fKind ∧ RI .i64 x.fRailway ∧ RI .i64 x.fOther ∧ True
def REdge (x : Edge) : Prop := RI .i64 x.fA ∧ RI .i64 x.fB ∧ RI .i64 x.fRailway ∧ RI .i64 x.fMinutes ∧ RI .i64 x.fKm ∧ True
def RNetwork (x : Network) : Prop := (RL (RPlace)) x.fPlaces ∧ (RL (REdge)) x.fEdges ∧ True
def RReader (x : Reader) : Prop := RI .i64 x.fPlace ∧ RI .i64 x.fLow ∧ RI .i64 x.fHigh ∧ True
def RShipper (x : Shipper) : Prop := RI .i64 x.fPlace ∧ True
def RSpan (x : Span) : Prop := RI .i64 x.fFrom ∧ RI .i64 x.fTo ∧ True
def RCalendar (x : Calendar) : Prop := (fun f => ∀ i, i < 7 → (RSpan) (f i)) x.fOpen ∧ (RL (RI .i64)) x.fHolidays ∧ True
def RRailwayInfo (x : RailwayInfo) : Prop := RI .u64 x.fKey ∧ RCalendar x.fCalendar ∧ True
def RPool (x : Pool) : Prop := RNetwork x.fNetwork ∧ RFleet x.fFleet ∧ (RL (RReader)) x.fReaders ∧ (RL (RShipper)) x.fShippers ∧ (RL (RRailwayInfo)) x.fRailways ∧ True
theorem ou3 {P : Program} (H : P = Try.prog) : P.underlying 3 = some (.int .i64) := by subst H; kernel_rfl
theorem ou48 {P : Program} (H : P = Try.prog) : P.underlying 48 = some (.int .u64) := by subst H; kernel_rfl
theorem of50 {P : Program} (H : P = Try.prog) : tfields P 50 = some [(3, 0, 1), (3, 1, 1), (3, 2, 1), (3, 3, 1), (3, 4, 1), (48, 5, 1), (3, 6, 1), (3, 7, 1)] := by subst H; kernel_rfl
theorem oc50 {P : Program} (H : P = Try.prog) : P.cellsOf 50 = 8 := by subst H; kernel_rfl
theorem ou22 {P : Program} (H : P = Try.prog) : P.underlying 22 = some (.slice 50) := by subst H; kernel_rfl
theorem of47 {P : Program} (H : P = Try.prog) : tfields P 47 = some [(3, 0, 1), (3, 1, 1), (3, 2, 1), (3, 3, 1), (3, 4, 1)] := by subst H; kernel_rfl
theorem oc47 {P : Program} (H : P = Try.prog) : P.cellsOf 47 = 5 := by subst H; kernel_rfl
theorem ou23 {P : Program} (H : P = Try.prog) : P.underlying 23 = some (.slice 47) := by subst H; kernel_rfl
theorem of43 {P : Program} (H : P = Try.prog) : tfields P 43 = some [(3, 0, 1), (3, 1, 1), (3, 2, 1)] := by subst H; kernel_rfl
theorem oc43 {P : Program} (H : P = Try.prog) : P.cellsOf 43 = 3 := by subst H; kernel_rfl
theorem ou24 {P : Program} (H : P = Try.prog) : P.underlying 24 = some (.slice 43) := by subst H; kernel_rfl
theorem of86 {P : Program} (H : P = Try.prog) : tfields P 86 = some [(3, 0, 1), (3, 1, 1), (3, 2, 1)] := by subst H; kernel_rfl
theorem oc86 {P : Program} (H : P = Try.prog) : P.cellsOf 86 = 3 := by subst H; kernel_rfl
theorem ou25 {P : Program} (H : P = Try.prog) : P.underlying 25 = some (.slice 86) := by subst H; kernel_rfl
theorem of27 {P : Program} (H : P = Try.prog) : tfields P 27 = some [(22, 0, 1), (23, 1, 1), (24, 2, 1), (25, 3, 1)] := by subst H; kernel_rfl
theorem oc27 {P : Program} (H : P = Try.prog) : P.cellsOf 27 = 4 := by subst H; kernel_rfl
theorem of29 {P : Program} (H : P = Try.prog) : tfields P 29 = some [(3, 0, 1), (3, 1, 1), (3, 2, 1), (3, 3, 1), (3, 4, 1), (3, 5, 1)] := by subst H; kernel_rfl
theorem oc29 {P : Program} (H : P = Try.prog) : P.cellsOf 29 = 6 := by subst H; kernel_rfl
theorem of77 {P : Program} (H : P = Try.prog) : tfields P 77 = some [(3, 0, 1), (3, 1, 1), (3, 2, 1)] := by subst H; kernel_rfl
theorem oc77 {P : Program} (H : P = Try.prog) : P.cellsOf 77 = 3 := by subst H; kernel_rfl
theorem ou53 {P : Program} (H : P = Try.prog) : P.underlying 53 = some (.slice 77) := by subst H; kernel_rfl
theorem of98 {P : Program} (H : P = Try.prog) : tfields P 98 = some [(3, 0, 1), (3, 1, 1), (3, 2, 1), (3, 3, 1), (3, 4, 1)] := by subst H; kernel_rfl
theorem oc98 {P : Program} (H : P = Try.prog) : P.cellsOf 98 = 5 := by subst H; kernel_rfl
theorem ou54 {P : Program} (H : P = Try.prog) : P.underlying 54 = some (.slice 98) := by subst H; kernel_rfl
theorem of56 {P : Program} (H : P = Try.prog) : tfields P 56 = some [(53, 0, 1), (54, 1, 1)] := by subst H; kernel_rfl
theorem oc56 {P : Program} (H : P = Try.prog) : P.cellsOf 56 = 2 := by subst H; kernel_rfl
theorem of75 {P : Program} (H : P = Try.prog) : tfields P 75 = some [(3, 0, 1), (3, 1, 1), (3, 2, 1)] := by subst H; kernel_rfl
theorem oc75 {P : Program} (H : P = Try.prog) : P.cellsOf 75 = 3 := by subst H; kernel_rfl
theorem ou57 {P : Program} (H : P = Try.prog) : P.underlying 57 = some (.slice 75) := by subst H; kernel_rfl
theorem of79 {P : Program} (H : P = Try.prog) : tfields P 79 = some [(3, 0, 1)] := by subst H; kernel_rfl
theorem oc79 {P : Program} (H : P = Try.prog) : P.cellsOf 79 = 1 := by subst H; kernel_rfl
theorem ou58 {P : Program} (H : P = Try.prog) : P.underlying 58 = some (.slice 79) := by subst H; kernel_rfl
theorem of63 {P : Program} (H : P = Try.prog) : tfields P 63 = some [(3, 0, 1), (3, 1, 1)] := by subst H; kernel_rfl
theorem oc63 {P : Program} (H : P = Try.prog) : P.cellsOf 63 = 2 := by subst H; kernel_rfl
theorem ou64 {P : Program} (H : P = Try.prog) : P.underlying 64 = some (.array 7 63) := by subst H; kernel_rfl
theorem oc64 {P : Program} (H : P = Try.prog) : P.cellsOf 64 = 14 := by subst H; kernel_rfl
theorem ou41 {P : Program} (H : P = Try.prog) : P.underlying 41 = some (.slice 3) := by subst H; kernel_rfl
theorem oc3 {P : Program} (H : P = Try.prog) : P.cellsOf 3 = 1 := by subst H; kernel_rfl
theorem of66 {P : Program} (H : P = Try.prog) : tfields P 66 = some [(64, 0, 14), (41, 14, 1)] := by subst H; kernel_rfl
theorem oc66 {P : Program} (H : P = Try.prog) : P.cellsOf 66 = 15 := by subst H; kernel_rfl
theorem of68 {P : Program} (H : P = Try.prog) : tfields P 68 = some [(48, 0, 1), (66, 1, 15)] := by subst H; kernel_rfl
theorem oc68 {P : Program} (H : P = Try.prog) : P.cellsOf 68 = 16 := by subst H; kernel_rfl
theorem ou59 {P : Program} (H : P = Try.prog) : P.underlying 59 = some (.slice 68) := by subst H; kernel_rfl
theorem of61 {P : Program} (H : P = Try.prog) : tfields P 61 = some [(56, 0, 2), (27, 2, 4), (57, 6, 1), (58, 7, 1), (59, 8, 1)] := by subst H; kernel_rfl
theorem oc61 {P : Program} (H : P = Try.prog) : P.cellsOf 61 = 9 := by subst H; kernel_rfl
theorem op_WagonType {P : Program} (H : P = Try.prog) : Opn P 50 8 eWagonType RWagonType := by
  intro H' enc w sp held fuel cs x h
  obtain ⟨hl, m, hf⟩ := trod_fields (of50 H) h
  replace hl : cs.length = 8 := hl.trans (oc50 H)
  obtain ⟨x0, h0⟩ := hf 0 _ _ _ rfl
  obtain ⟨_, y0, r0, c0⟩ := (Opn.int (ou3 H)) _ _ _ _ _ _ _ _ h0
  obtain ⟨x1, h1⟩ := hf 1 _ _ _ rfl
  obtain ⟨_, y1, r1, c1⟩ := (Opn.int (ou3 H)) _ _ _ _ _ _ _ _ h1
  obtain ⟨x2, h2⟩ := hf 2 _ _ _ rfl
  obtain ⟨_, y2, r2, c2⟩ := (Opn.int (ou3 H)) _ _ _ _ _ _ _ _ h2
  obtain ⟨x3, h3⟩ := hf 3 _ _ _ rfl
  obtain ⟨_, y3, r3, c3⟩ := (Opn.int (ou3 H)) _ _ _ _ _ _ _ _ h3
  obtain ⟨x4, h4⟩ := hf 4 _ _ _ rfl
  obtain ⟨_, y4, r4, c4⟩ := (Opn.int (ou3 H)) _ _ _ _ _ _ _ _ h4
  obtain ⟨x5, h5⟩ := hf 5 _ _ _ rfl
  obtain ⟨_, y5, r5, c5⟩ := (Opn.int (ou48 H)) _ _ _ _ _ _ _ _ h5
  obtain ⟨x6, h6⟩ := hf 6 _ _ _ rfl
  obtain ⟨_, y6, r6, c6⟩ := (Opn.int (ou3 H)) _ _ _ _ _ _ _ _ h6
  obtain ⟨x7, h7⟩ := hf 7 _ _ _ rfl
  obtain ⟨_, y7, r7, c7⟩ := (Opn.int (ou3 H)) _ _ _ _ _ _ _ _ h7
  exact ⟨hl, ⟨y0, y1, y2, y3, y4, y5, y6, y7⟩, ⟨r0, r1, r2, r3, r4, r5, r6, r7, trivial⟩, CellsH.tile c0 (CellsH.tile c1 (CellsH.tile c2 (CellsH.tile c3 (CellsH.tile c4 (CellsH.tile c5 (CellsH.tile c6 (CellsH.tile c7 (CellsH.tile0 hl))))))))⟩
theorem op_Wagon {P : Program} (H : P = Try.prog) : Opn P 47 5 eWagon RWagon := by
  intro H' enc w sp held fuel cs x h
  obtain ⟨hl, m, hf⟩ := trod_fields (of47 H) h
  replace hl : cs.length = 5 := hl.trans (oc47 H)
  obtain ⟨x0, h0⟩ := hf 0 _ _ _ rfl
  obtain ⟨_, y0, r0, c0⟩ := (Opn.int (ou3 H)) _ _ _ _ _ _ _ _ h0
  obtain ⟨x1, h1⟩ := hf 1 _ _ _ rfl
  obtain ⟨_, y1, r1, c1⟩ := (Opn.int (ou3 H)) _ _ _ _ _ _ _ _ h1
  obtain ⟨x2, h2⟩ := hf 2 _ _ _ rfl
  obtain ⟨_, y2, r2, c2⟩ := (Opn.int (ou3 H)) _ _ _ _ _ _ _ _ h2
  obtain ⟨x3, h3⟩ := hf 3 _ _ _ rfl
  obtain ⟨_, y3, r3, c3⟩ := (Opn.int (ou3 H)) _ _ _ _ _ _ _ _ h3
  obtain ⟨x4, h4⟩ := hf 4 _ _ _ rfl
  obtain ⟨_, y4, r4, c4⟩ := (Opn.int (ou3 H)) _ _ _ _ _ _ _ _ h4
  exact ⟨hl, ⟨y0, y1, y2, y3, y4⟩, ⟨r0, r1, r2, r3, r4, trivial⟩, CellsH.tile c0 (CellsH.tile c1 (CellsH.tile c2 (CellsH.tile c3 (CellsH.tile c4 (CellsH.tile0 hl)))))⟩
theorem op_Swap {P : Program} (H : P = Try.prog) : Opn P 43 3 eSwap RSwap := by
  intro H' enc w sp held fuel cs x h
  obtain ⟨hl, m, hf⟩ := trod_fields (of43 H) h
  replace hl : cs.length = 3 := hl.trans (oc43 H)
  obtain ⟨x0, h0⟩ := hf 0 _ _ _ rfl
  obtain ⟨_, y0, r0, c0⟩ := (Opn.int (ou3 H)) _ _ _ _ _ _ _ _ h0
  obtain ⟨x1, h1⟩ := hf 1 _ _ _ rfl
  obtain ⟨_, y1, r1, c1⟩ := (Opn.int (ou3 H)) _ _ _ _ _ _ _ _ h1
  obtain ⟨x2, h2⟩ := hf 2 _ _ _ rfl
  obtain ⟨_, y2, r2, c2⟩ := (Opn.int (ou3 H)) _ _ _ _ _ _ _ _ h2
  exact ⟨hl, ⟨y0, y1, y2⟩, ⟨r0, r1, r2, trivial⟩, CellsH.tile c0 (CellsH.tile c1 (CellsH.tile c2 (CellsH.tile0 hl)))⟩
theorem op_Wash {P : Program} (H : P = Try.prog) : Opn P 86 3 eWash RWash := by
  intro H' enc w sp held fuel cs x h
  obtain ⟨hl, m, hf⟩ := trod_fields (of86 H) h
  replace hl : cs.length = 3 := hl.trans (oc86 H)
  obtain ⟨x0, h0⟩ := hf 0 _ _ _ rfl
  obtain ⟨_, y0, r0, c0⟩ := (Opn.int (ou3 H)) _ _ _ _ _ _ _ _ h0
  obtain ⟨x1, h1⟩ := hf 1 _ _ _ rfl
  obtain ⟨_, y1, r1, c1⟩ := (Opn.int (ou3 H)) _ _ _ _ _ _ _ _ h1
  obtain ⟨x2, h2⟩ := hf 2 _ _ _ rfl
  obtain ⟨_, y2, r2, c2⟩ := (Opn.int (ou3 H)) _ _ _ _ _ _ _ _ h2
  exact ⟨hl, ⟨y0, y1, y2⟩, ⟨r0, r1, r2, trivial⟩, CellsH.tile c0 (CellsH.tile c1 (CellsH.tile c2 (CellsH.tile0 hl)))⟩
theorem op_Fleet {P : Program} (H : P = Try.prog) : Opn P 27 4 eFleet RFleet := by
  intro H' enc w sp held fuel cs x h
  obtain ⟨hl, m, hf⟩ := trod_fields (of27 H) h
  replace hl : cs.length = 4 := hl.trans (oc27 H)
  obtain ⟨x0, h0⟩ := hf 0 _ _ _ rfl
  obtain ⟨_, y0, r0, c0⟩ := (Opn.slice (ou22 H) (oc50 H) (by decide) (op_WagonType H)) _ _ _ _ _ _ _ _ h0
  obtain ⟨x1, h1⟩ := hf 1 _ _ _ rfl
  obtain ⟨_, y1, r1, c1⟩ := (Opn.slice (ou23 H) (oc47 H) (by decide) (op_Wagon H)) _ _ _ _ _ _ _ _ h1
  obtain ⟨x2, h2⟩ := hf 2 _ _ _ rfl
  obtain ⟨_, y2, r2, c2⟩ := (Opn.slice (ou24 H) (oc43 H) (by decide) (op_Swap H)) _ _ _ _ _ _ _ _ h2
  obtain ⟨x3, h3⟩ := hf 3 _ _ _ rfl
  obtain ⟨_, y3, r3, c3⟩ := (Opn.slice (ou25 H) (oc86 H) (by decide) (op_Wash H)) _ _ _ _ _ _ _ _ h3
  exact ⟨hl, ⟨y0, y1, y2, y3⟩, ⟨r0, r1, r2, r3, trivial⟩, CellsH.tile c0 (CellsH.tile c1 (CellsH.tile c2 (CellsH.tile c3 (CellsH.tile0 hl))))⟩
theorem op_law09_Question {P : Program} (H : P = Try.prog) : Opn P 29 6 elaw09_Question Rlaw09_Question := by
  intro H' enc w sp held fuel cs x h
  obtain ⟨hl, m, hf⟩ := trod_fields (of29 H) h
  replace hl : cs.length = 6 := hl.trans (oc29 H)
  obtain ⟨x0, h0⟩ := hf 0 _ _ _ rfl
  obtain ⟨_, y0, r0, c0⟩ := (Opn.int (ou3 H)) _ _ _ _ _ _ _ _ h0
  obtain ⟨x1, h1⟩ := hf 1 _ _ _ rfl
  obtain ⟨_, y1, r1, c1⟩ := (Opn.int (ou3 H)) _ _ _ _ _ _ _ _ h1
  obtain ⟨x2, h2⟩ := hf 2 _ _ _ rfl
  obtain ⟨_, y2, r2, c2⟩ := (Opn.int (ou3 H)) _ _ _ _ _ _ _ _ h2
  obtain ⟨x3, h3⟩ := hf 3 _ _ _ rfl
  obtain ⟨_, y3, r3, c3⟩ := (Opn.int (ou3 H)) _ _ _ _ _ _ _ _ h3
  obtain ⟨x4, h4⟩ := hf 4 _ _ _ rfl
  obtain ⟨_, y4, r4, c4⟩ := (Opn.int (ou3 H)) _ _ _ _ _ _ _ _ h4
  obtain ⟨x5, h5⟩ := hf 5 _ _ _ rfl
  obtain ⟨_, y5, r5, c5⟩ := (Opn.int (ou3 H)) _ _ _ _ _ _ _ _ h5
  exact ⟨hl, ⟨y0, y1, y2, y3, y4, y5⟩, ⟨r0, r1, r2, r3, r4, r5, trivial⟩, CellsH.tile c0 (CellsH.tile c1 (CellsH.tile c2 (CellsH.tile c3 (CellsH.tile c4 (CellsH.tile c5 (CellsH.tile0 hl))))))⟩
theorem op_Place {P : Program} (H : P = Try.prog) : Opn P 77 3 ePlace RPlace := by
  intro H' enc w sp held fuel cs x h
  obtain ⟨hl, m, hf⟩ := trod_fields (of77 H) h
  replace hl : cs.length = 3 := hl.trans (oc77 H)
  obtain ⟨x0, h0⟩ := hf 0 _ _ _ rfl
  obtain ⟨_, y0, r0, c0⟩ := (Opn.int (ou3 H)) _ _ _ _ _ _ _ _ h0
  obtain ⟨x1, h1⟩ := hf 1 _ _ _ rfl
  obtain ⟨_, y1, r1, c1⟩ := (Opn.int (ou3 H)) _ _ _ _ _ _ _ _ h1
  obtain ⟨x2, h2⟩ := hf 2 _ _ _ rfl
  obtain ⟨_, y2, r2, c2⟩ := (Opn.int (ou3 H)) _ _ _ _ _ _ _ _ h2
  exact ⟨hl, ⟨y0, y1, y2⟩, ⟨r0, r1, r2, trivial⟩, CellsH.tile c0 (CellsH.tile c1 (CellsH.tile c2 (CellsH.tile0 hl)))⟩
theorem op_Edge {P : Program} (H : P = Try.prog) : Opn P 98 5 eEdge REdge := by
  intro H' enc w sp held fuel cs x h
  obtain ⟨hl, m, hf⟩ := trod_fields (of98 H) h
  replace hl : cs.length = 5 := hl.trans (oc98 H)
  obtain ⟨x0, h0⟩ := hf 0 _ _ _ rfl
  obtain ⟨_, y0, r0, c0⟩ := (Opn.int (ou3 H)) _ _ _ _ _ _ _ _ h0
  obtain ⟨x1, h1⟩ := hf 1 _ _ _ rfl
  obtain ⟨_, y1, r1, c1⟩ := (Opn.int (ou3 H)) _ _ _ _ _ _ _ _ h1
  obtain ⟨x2, h2⟩ := hf 2 _ _ _ rfl
  obtain ⟨_, y2, r2, c2⟩ := (Opn.int (ou3 H)) _ _ _ _ _ _ _ _ h2
  obtain ⟨x3, h3⟩ := hf 3 _ _ _ rfl
  obtain ⟨_, y3, r3, c3⟩ := (Opn.int (ou3 H)) _ _ _ _ _ _ _ _ h3
  obtain ⟨x4, h4⟩ := hf 4 _ _ _ rfl
  obtain ⟨_, y4, r4, c4⟩ := (Opn.int (ou3 H)) _ _ _ _ _ _ _ _ h4
  exact ⟨hl, ⟨y0, y1, y2, y3, y4⟩, ⟨r0, r1, r2, r3, r4, trivial⟩, CellsH.tile c0 (CellsH.tile c1 (CellsH.tile c2 (CellsH.tile c3 (CellsH.tile c4 (CellsH.tile0 hl)))))⟩
theorem op_Network {P : Program} (H : P = Try.prog) : Opn P 56 2 eNetwork RNetwork := by
  intro H' enc w sp held fuel cs x h
  obtain ⟨hl, m, hf⟩ := trod_fields (of56 H) h
  replace hl : cs.length = 2 := hl.trans (oc56 H)
  obtain ⟨x0, h0⟩ := hf 0 _ _ _ rfl
  obtain ⟨_, y0, r0, c0⟩ := (Opn.slice (ou53 H) (oc77 H) (by decide) (op_Place H)) _ _ _ _ _ _ _ _ h0
  obtain ⟨x1, h1⟩ := hf 1 _ _ _ rfl
  obtain ⟨_, y1, r1, c1⟩ := (Opn.slice (ou54 H) (oc98 H) (by decide) (op_Edge H)) _ _ _ _ _ _ _ _ h1
  exact ⟨hl, ⟨y0, y1⟩, ⟨r0, r1, trivial⟩, CellsH.tile c0 (CellsH.tile c1 (CellsH.tile0 hl))⟩
theorem op_Reader {P : Program} (H : P = Try.prog) : Opn P 75 3 eReader RReader := by
  intro H' enc w sp held fuel cs x h
  obtain ⟨hl, m, hf⟩ := trod_fields (of75 H) h
  replace hl : cs.length = 3 := hl.trans (oc75 H)
  obtain ⟨x0, h0⟩ := hf 0 _ _ _ rfl
  obtain ⟨_, y0, r0, c0⟩ := (Opn.int (ou3 H)) _ _ _ _ _ _ _ _ h0
  obtain ⟨x1, h1⟩ := hf 1 _ _ _ rfl
  obtain ⟨_, y1, r1, c1⟩ := (Opn.int (ou3 H)) _ _ _ _ _ _ _ _ h1
  obtain ⟨x2, h2⟩ := hf 2 _ _ _ rfl
  obtain ⟨_, y2, r2, c2⟩ := (Opn.int (ou3 H)) _ _ _ _ _ _ _ _ h2
  exact ⟨hl, ⟨y0, y1, y2⟩, ⟨r0, r1, r2, trivial⟩, CellsH.tile c0 (CellsH.tile c1 (CellsH.tile c2 (CellsH.tile0 hl)))⟩
theorem op_Shipper {P : Program} (H : P = Try.prog) : Opn P 79 1 eShipper RShipper := by
  intro H' enc w sp held fuel cs x h
  obtain ⟨hl, m, hf⟩ := trod_fields (of79 H) h
  replace hl : cs.length = 1 := hl.trans (oc79 H)
  obtain ⟨x0, h0⟩ := hf 0 _ _ _ rfl
  obtain ⟨_, y0, r0, c0⟩ := (Opn.int (ou3 H)) _ _ _ _ _ _ _ _ h0
  exact ⟨hl, ⟨y0⟩, ⟨r0, trivial⟩, CellsH.tile c0 (CellsH.tile0 hl)⟩
theorem op_Span {P : Program} (H : P = Try.prog) : Opn P 63 2 eSpan RSpan := by
  intro H' enc w sp held fuel cs x h
  obtain ⟨hl, m, hf⟩ := trod_fields (of63 H) h
  replace hl : cs.length = 2 := hl.trans (oc63 H)
  obtain ⟨x0, h0⟩ := hf 0 _ _ _ rfl
  obtain ⟨_, y0, r0, c0⟩ := (Opn.int (ou3 H)) _ _ _ _ _ _ _ _ h0
  obtain ⟨x1, h1⟩ := hf 1 _ _ _ rfl
  obtain ⟨_, y1, r1, c1⟩ := (Opn.int (ou3 H)) _ _ _ _ _ _ _ _ h1
  exact ⟨hl, ⟨y0, y1⟩, ⟨r0, r1, trivial⟩, CellsH.tile c0 (CellsH.tile c1 (CellsH.tile0 hl))⟩
theorem op_Calendar {P : Program} (H : P = Try.prog) : Opn P 66 15 eCalendar RCalendar := by
  intro H' enc w sp held fuel cs x h
  obtain ⟨hl, m, hf⟩ := trod_fields (of66 H) h
  replace hl : cs.length = 15 := hl.trans (oc66 H)
  obtain ⟨x0, h0⟩ := hf 0 _ _ _ rfl
  obtain ⟨_, y0, r0, c0⟩ := (Opn.array (ou64 H) (oc63 H) (oc64 H) rfl (op_Span H)) _ _ _ _ _ _ _ _ h0
  obtain ⟨x1, h1⟩ := hf 1 _ _ _ rfl
  obtain ⟨_, y1, r1, c1⟩ := (Opn.slice (ou41 H) (oc3 H) (by decide) (Opn.int (ou3 H))) _ _ _ _ _ _ _ _ h1
  exact ⟨hl, ⟨y0, y1⟩, ⟨r0, r1, trivial⟩, CellsH.of_eq (CellsH.tile c0 (CellsH.tile c1 (CellsH.tile0 hl))) (by simp [eCalendar])⟩
theorem op_RailwayInfo {P : Program} (H : P = Try.prog) : Opn P 68 16 eRailwayInfo RRailwayInfo := by
  intro H' enc w sp held fuel cs x h
  obtain ⟨hl, m, hf⟩ := trod_fields (of68 H) h
  replace hl : cs.length = 16 := hl.trans (oc68 H)
  obtain ⟨x0, h0⟩ := hf 0 _ _ _ rfl
  obtain ⟨_, y0, r0, c0⟩ := (Opn.int (ou48 H)) _ _ _ _ _ _ _ _ h0
  obtain ⟨x1, h1⟩ := hf 1 _ _ _ rfl
  obtain ⟨_, y1, r1, c1⟩ := (op_Calendar H) _ _ _ _ _ _ _ _ h1
  exact ⟨hl, ⟨y0, y1⟩, ⟨r0, r1, trivial⟩, CellsH.of_eq (CellsH.tile c0 (CellsH.tile c1 (CellsH.tile0 hl))) (by simp [eCalendar, eRailwayInfo])⟩
theorem op_Pool {P : Program} (H : P = Try.prog) : Opn P 61 9 ePool RPool := by
  intro H' enc w sp held fuel cs x h
  obtain ⟨hl, m, hf⟩ := trod_fields (of61 H) h
  replace hl : cs.length = 9 := hl.trans (oc61 H)
  obtain ⟨x0, h0⟩ := hf 0 _ _ _ rfl
  obtain ⟨_, y0, r0, c0⟩ := (op_Network H) _ _ _ _ _ _ _ _ h0
  obtain ⟨x1, h1⟩ := hf 1 _ _ _ rfl
  obtain ⟨_, y1, r1, c1⟩ := (op_Fleet H) _ _ _ _ _ _ _ _ h1
  obtain ⟨x2, h2⟩ := hf 2 _ _ _ rfl
  obtain ⟨_, y2, r2, c2⟩ := (Opn.slice (ou57 H) (oc75 H) (by decide) (op_Reader H)) _ _ _ _ _ _ _ _ h2
  obtain ⟨x3, h3⟩ := hf 3 _ _ _ rfl
  obtain ⟨_, y3, r3, c3⟩ := (Opn.slice (ou58 H) (oc79 H) (by decide) (op_Shipper H)) _ _ _ _ _ _ _ _ h3
  obtain ⟨x4, h4⟩ := hf 4 _ _ _ rfl
  obtain ⟨_, y4, r4, c4⟩ := (Opn.slice (ou59 H) (oc68 H) (by decide) (op_RailwayInfo H)) _ _ _ _ _ _ _ _ h4
  exact ⟨hl, ⟨y0, y1, y2, y3, y4⟩, ⟨r0, r1, r2, r3, r4, trivial⟩, CellsH.tile c0 (CellsH.tile c1 (CellsH.tile c2 (CellsH.tile c3 (CellsH.tile c4 (CellsH.tile0 hl)))))⟩
end Px
