/- What the functions of the program say, read out of the translation. Conditions: none. -/
import Derived.Test.YtbfoamlmlbmmnaaPk
set_option linter.unusedVariables false
set_option linter.unusedSimpArgs false
set_option maxHeartbeats 4000000
set_option maxRecDepth 100000
namespace Px
open Go Go.RowKit
def str_c0 : ByteArray := ⟨#[0, 1, 2, 2, 3, 3, 3, 3, 4, 4, 4, 4, 4, 4, 4, 4, 5, 5, 5, 5, 5, 5, 5, 5, 5, 5, 5, 5, 5, 5, 5, 5, 6, 6, 6, 6, 6, 6, 6, 6, 6, 6, 6, 6, 6, 6, 6, 6, 6, 6, 6, 6, 6, 6, 6, 6, 6, 6, 6, 6, 6, 6, 6, 6, 7, 7, 7, 7, 7, 7, 7, 7, 7, 7, 7, 7, 7, 7, 7, 7, 7, 7, 7, 7, 7, 7, 7, 7, 7, 7, 7, 7, 7, 7, 7, 7, 7, 7, 7, 7, 7, 7, 7, 7, 7, 7, 7, 7, 7, 7, 7, 7, 7, 7, 7, 7, 7, 7, 7, 7, 7, 7, 7, 7, 7, 7, 7, 7, 8, 8, 8, 8, 8, 8, 8, 8, 8, 8, 8, 8, 8, 8, 8, 8, 8, 8, 8, 8, 8, 8, 8, 8, 8, 8, 8, 8, 8, 8, 8, 8, 8, 8, 8, 8, 8, 8, 8, 8, 8, 8, 8, 8, 8, 8, 8, 8, 8, 8, 8, 8, 8, 8, 8, 8, 8, 8, 8, 8, 8, 8, 8, 8, 8, 8, 8, 8, 8, 8, 8, 8, 8, 8, 8, 8, 8, 8, 8, 8, 8, 8, 8, 8, 8, 8, 8, 8, 8, 8, 8, 8, 8, 8, 8, 8, 8, 8, 8, 8, 8, 8, 8, 8, 8, 8, 8, 8, 8, 8, 8, 8, 8, 8, 8, 8, 8, 8, 8, 8, 8, 8, 8, 8, 8, 8, 8, 8]⟩
structure Place where
  fKind : Int
  fRailway : Int
  fOther : Int
instance : Inhabited Place := ⟨⟨default, default, default⟩⟩
def ePlace (x : Place) : List VP := [(iv .i64 x.fKind), (iv .i64 x.fRailway), (iv .i64 x.fOther)]
theorem lPlace (x : Place) : (ePlace x).length = 3 := rfl

structure Edge where
  fA : Int
  fB : Int
  fRailway : Int
  fMinutes : Int
  fKm : Int
instance : Inhabited Edge := ⟨⟨default, default, default, default, default⟩⟩
def eEdge (x : Edge) : List VP := [(iv .i64 x.fA), (iv .i64 x.fB), (iv .i64 x.fRailway), (iv .i64 x.fMinutes), (iv .i64 x.fKm)]
theorem lEdge (x : Edge) : (eEdge x).length = 5 := rfl

structure WagonType where
  fLoad : Int
  fTare : Int
  fLength : Int
  fGauge : Int
  fBrake : Int
  fClasses : Int
  fLife : Int
  fFloor : Int
instance : Inhabited WagonType := ⟨⟨default, default, default, default, default, default, default, default⟩⟩
def eWagonType (x : WagonType) : List VP := [(iv .i64 x.fLoad), (iv .i64 x.fTare), (iv .i64 x.fLength), (iv .i64 x.fGauge), (iv .i64 x.fBrake), (iv .u64 x.fClasses), (iv .i64 x.fLife), (iv .i64 x.fFloor)]
theorem lWagonType (x : WagonType) : (eWagonType x).length = 8 := rfl

structure Wagon where
  fType : Int
  fOwner : Int
  fHome : Int
  fBuilt : Int
  fWorth : Int
instance : Inhabited Wagon := ⟨⟨default, default, default, default, default⟩⟩
def eWagon (x : Wagon) : List VP := [(iv .i64 x.fType), (iv .i64 x.fOwner), (iv .i64 x.fHome), (iv .i64 x.fBuilt), (iv .i64 x.fWorth)]
theorem lWagon (x : Wagon) : (eWagon x).length = 5 := rfl

structure Network where
  fPlaces : (List Place)
  fEdges : (List Edge)
instance : Inhabited Network := ⟨⟨default, default⟩⟩
def eNetwork (x : Network) : List VP := [(ro ePlace 3 x.fPlaces), (ro eEdge 5 x.fEdges)]
theorem lNetwork (x : Network) : (eNetwork x).length = 2 := rfl

structure Span where
  fFrom : Int
  fTo : Int
instance : Inhabited Span := ⟨⟨default, default⟩⟩
def eSpan (x : Span) : List VP := [(iv .i64 x.fFrom), (iv .i64 x.fTo)]
theorem lSpan (x : Span) : (eSpan x).length = 2 := rfl

structure Calendar where
  fOpen : (Nat → Span)
  fHolidays : (List Int)
instance : Inhabited Calendar := ⟨⟨(fun _ => default), default⟩⟩
def eCalendar (x : Calendar) : List VP := ([] ++ arr 7 eSpan x.fOpen ++ [(ro eI64 1 x.fHolidays)])
theorem lCalendar (x : Calendar) : (eCalendar x).length = 15 := rfl

structure Swap where
  fWanted : Int
  fGiven : Int
  fCost : Int
instance : Inhabited Swap := ⟨⟨default, default, default⟩⟩
def eSwap (x : Swap) : List VP := [(iv .i64 x.fWanted), (iv .i64 x.fGiven), (iv .i64 x.fCost)]
theorem lSwap (x : Swap) : (eSwap x).length = 3 := rfl

structure Wash where
  fFrom : Int
  fTo : Int
  fMinutes : Int
instance : Inhabited Wash := ⟨⟨default, default, default⟩⟩
def eWash (x : Wash) : List VP := [(iv .i64 x.fFrom), (iv .i64 x.fTo), (iv .i64 x.fMinutes)]
theorem lWash (x : Wash) : (eWash x).length = 3 := rfl

structure Fleet where
  fTypes : (List WagonType)
  fWagons : (List Wagon)
  fSwaps : (List Swap)
  fWashes : (List Wash)
instance : Inhabited Fleet := ⟨⟨default, default, default, default⟩⟩
def eFleet (x : Fleet) : List VP := [(ro eWagonType 8 x.fTypes), (ro eWagon 5 x.fWagons), (ro eSwap 3 x.fSwaps), (ro eWash 3 x.fWashes)]
theorem lFleet (x : Fleet) : (eFleet x).length = 4 := rfl

structure Reader where
  fPlace : Int
  fLow : Int
  fHigh : Int
instance : Inhabited Reader := ⟨⟨default, default, default⟩⟩
def eReader (x : Reader) : List VP := [(iv .i64 x.fPlace), (iv .i64 x.fLow), (iv .i64 x.fHigh)]
theorem lReader (x : Reader) : (eReader x).length = 3 := rfl

structure Shipper where
  fPlace : Int
instance : Inhabited Shipper := ⟨⟨default⟩⟩
def eShipper (x : Shipper) : List VP := [(iv .i64 x.fPlace)]
theorem lShipper (x : Shipper) : (eShipper x).length = 1 := rfl

structure RailwayInfo where
  fKey : Int
  fCalendar : Calendar
instance : Inhabited RailwayInfo := ⟨⟨default, default⟩⟩
def eRailwayInfo (x : RailwayInfo) : List VP := ([(iv .u64 x.fKey)] ++ arr 7 eSpan x.fCalendar.fOpen ++ [(ro eI64 1 x.fCalendar.fHolidays)])
theorem lRailwayInfo (x : RailwayInfo) : (eRailwayInfo x).length = 16 := rfl

structure Pool where
  fNetwork : Network
  fFleet : Fleet
  fReaders : (List Reader)
  fShippers : (List Shipper)
  fRailways : (List RailwayInfo)
instance : Inhabited Pool := ⟨⟨default, default, default, default, default⟩⟩
def ePool (x : Pool) : List VP := [(ro ePlace 3 x.fNetwork.fPlaces), (ro eEdge 5 x.fNetwork.fEdges), (ro eWagonType 8 x.fFleet.fTypes), (ro eWagon 5 x.fFleet.fWagons), (ro eSwap 3 x.fFleet.fSwaps), (ro eWash 3 x.fFleet.fWashes), (ro eReader 3 x.fReaders), (ro eShipper 1 x.fShippers), (ro eRailwayInfo 16 x.fRailways)]
theorem lPool (x : Pool) : (ePool x).length = 9 := rfl

structure law09_Question where
  fWagon : Int
  fClass : Int
  fWeight : Int
  fWanted : Int
  fTo : Int
  fAt : Int
instance : Inhabited law09_Question := ⟨⟨default, default, default, default, default, default⟩⟩
def elaw09_Question (x : law09_Question) : List VP := [(iv .i64 x.fWagon), (iv .i64 x.fClass), (iv .i64 x.fWeight), (iv .i64 x.fWanted), (iv .i64 x.fTo), (iv .i64 x.fAt)]
theorem llaw09_Question (x : law09_Question) : (elaw09_Question x).length = 6 := rfl

def eqSwapB (x y : Swap) : Bool := (x.fWanted == y.fWanted) && ((x.fGiven == y.fGiven) && ((x.fCost == y.fCost) && true))
theorem fWagon (x : Wagon) : AllFlat (eWagon x) := ⟨flat_eqv, flat_eqv, flat_eqv, flat_eqv, flat_eqv, trivial⟩
theorem fWagonType (x : WagonType) : AllFlat (eWagonType x) := ⟨flat_eqv, flat_eqv, flat_eqv, flat_eqv, flat_eqv, flat_eqv, flat_eqv, flat_eqv, trivial⟩
theorem fSwap (x : Swap) : AllFlat (eSwap x) := ⟨flat_eqv, flat_eqv, flat_eqv, trivial⟩
def fleet_between (φ : Nat) (v1 : Int) (v2 : Int) (v3 : Int) : Option (Bool) := (some (decide (v2 ≤ v1) && decide (v1 ≤ v3)))
def ref09_within (φ : Nat) (v1 : Int) (v2 : Int) (v3 : Int) : Option (Bool) := (some (decide (v2 ≤ v1) && decide (v1 ≤ v3)))
def money_in_j2 (φ : Nat) : Option (Bool) := (some true)
def money_in_L4 (φ : Nat) (v1 : (List Int)) (k2 : (Option (Bool))) : Nat → Int → Option (Bool)
  | 0, _ => none
  | n4 + 1, v3 => (if (decide (v3 < (v1.length : Int))) = true then ck (0 ≤ v3 ∧ v3 < (v1.length : Int)) ((if (decide ((gt v1 v3) < (-9007199254740992)) || decide (9007199254740992 < (gt v1 v3))) = true then (some false) else ((money_in_L4 φ v1 k2 n4) (W (v3 + 1))))) else k2)
def money_in (φ : Nat) (v1 : (List Int)) : Option (Bool) := (money_in_L4 φ v1 (money_in_j2 φ) φ 0)
def bits_Len64_j10 (φ : Nat) (v8 : Int) (v9 : Int) : Option (Int) := ck (0 ≤ (IntKind.wrap .u8 (v8)) ∧ (IntKind.wrap .u8 (v8)) < 256) ((some (W (v9 + (W ((byteAt str_c0 (IntKind.wrap .u8 (v8)))))))))
def bits_Len64_j7 (φ : Nat) (v5 : Int) (v6 : Int) : Option (Int) := (if (decide (256 ≤ v5)) = true then ((bits_Len64_j10 φ) (v5.fdiv 256) (W (v6 + 8))) else ((bits_Len64_j10 φ) v5 v6))
def bits_Len64_j4 (φ : Nat) (v2 : Int) (v3 : Int) : Option (Int) := (if (decide (65536 ≤ v2)) = true then ((bits_Len64_j7 φ) (v2.fdiv 65536) (W (v3 + 16))) else ((bits_Len64_j7 φ) v2 v3))
def bits_Len64 (φ : Nat) (v1 : Int) : Option (Int) := (if (decide (4294967296 ≤ v1)) = true then ((bits_Len64_j4 φ) (v1.fdiv 4294967296) 32) else ((bits_Len64_j4 φ) v1 0))
def bits_LeadingZeros64 (φ : Nat) (v1 : Int) : Option (Int) := (bits_Len64 φ v1).bind fun y2 => ((some (W (64 - y2))))
def bits_Mul64 (φ : Nat) (v1 : Int) (v2 : Int) : Option (Int × Int) := (some ((U ((U ((U ((v1.fdiv 4294967296) * (v2.fdiv 4294967296))) + ((U ((U ((v1.fdiv 4294967296) * (U ((BitVec.ofInt (IntKind.bits .u64) v2 &&& BitVec.ofInt (IntKind.bits .u64) 4294967295).toNat)))) + ((U ((U ((BitVec.ofInt (IntKind.bits .u64) v1 &&& BitVec.ofInt (IntKind.bits .u64) 4294967295).toNat)) * (U ((BitVec.ofInt (IntKind.bits .u64) v2 &&& BitVec.ofInt (IntKind.bits .u64) 4294967295).toNat)))).fdiv 4294967296))).fdiv 4294967296))) + ((U ((U ((BitVec.ofInt (IntKind.bits .u64) (U ((U ((v1.fdiv 4294967296) * (U ((BitVec.ofInt (IntKind.bits .u64) v2 &&& BitVec.ofInt (IntKind.bits .u64) 4294967295).toNat)))) + ((U ((U ((BitVec.ofInt (IntKind.bits .u64) v1 &&& BitVec.ofInt (IntKind.bits .u64) 4294967295).toNat)) * (U ((BitVec.ofInt (IntKind.bits .u64) v2 &&& BitVec.ofInt (IntKind.bits .u64) 4294967295).toNat)))).fdiv 4294967296))) &&& BitVec.ofInt (IntKind.bits .u64) 4294967295).toNat)) + (U ((U ((BitVec.ofInt (IntKind.bits .u64) v1 &&& BitVec.ofInt (IntKind.bits .u64) 4294967295).toNat)) * (v2.fdiv 4294967296))))).fdiv 4294967296))), (U (v1 * v2))))
def bits_Div64_j16 (φ : Nat) (v1 : Int) (v2 : Int) (v3 : Int) (y8 : (Int)) (v12 : Int) (v15 : Int) : Option (Int × Int) := ck (0 ≤ (U (y8))) ((some ((U ((U (v12 * 4294967296)) + v15)), ((U ((U ((U ((U ((U ((U ((U ((BitVec.ofInt (IntKind.bits .u64) (U (v1 * 2 ^ (min ((U (y8)) : Int).toNat (IntKind.bits .u64)))) ||| BitVec.ofInt (IntKind.bits .u64) (v2.fdiv (2 ^ (min ((U (64 - (U (y8)))) : Int).toNat (IntKind.bits .u64))))).toNat)) * 4294967296)) + ((U (v2 * 2 ^ (min ((U (y8)) : Int).toNat (IntKind.bits .u64)))).fdiv 4294967296))) - (U (v12 * (U (v3 * 2 ^ (min ((U (y8)) : Int).toNat (IntKind.bits .u64)))))))) * 4294967296)) + (U ((BitVec.ofInt (IntKind.bits .u64) (U (v2 * 2 ^ (min ((U (y8)) : Int).toNat (IntKind.bits .u64)))) &&& BitVec.ofInt (IntKind.bits .u64) 4294967295).toNat)))) - (U (v15 * (U (v3 * 2 ^ (min ((U (y8)) : Int).toNat (IntKind.bits .u64)))))))).fdiv (2 ^ (min ((U (y8)) : Int).toNat (IntKind.bits .u64)))))))
def bits_Div64_L20 (φ : Nat) (v2 : Int) (v3 : Int) (y8 : (Int)) (k16 : (Int → Option (Int × Int))) : Nat → Int → Int → Option (Int × Int)
  | 0, _, _ => none
  | n20 + 1, v18, v19 => (if (decide (4294967296 ≤ v19) || decide ((U ((U (4294967296 * v18)) + (U ((BitVec.ofInt (IntKind.bits .u64) (U (v2 * 2 ^ (min ((U (y8)) : Int).toNat (IntKind.bits .u64)))) &&& BitVec.ofInt (IntKind.bits .u64) 4294967295).toNat)))) < (U (v19 * (U ((BitVec.ofInt (IntKind.bits .u64) (U (v3 * 2 ^ (min ((U (y8)) : Int).toNat (IntKind.bits .u64)))) &&& BitVec.ofInt (IntKind.bits .u64) 4294967295).toNat)))))) = true then (if (decide (4294967296 ≤ (U (v18 + ((U (v3 * 2 ^ (min ((U (y8)) : Int).toNat (IntKind.bits .u64)))).fdiv 4294967296))))) = true then (k16 (U (v19 - 1))) else ((bits_Div64_L20 φ v2 v3 y8 k16 n20) (U (v18 + ((U (v3 * 2 ^ (min ((U (y8)) : Int).toNat (IntKind.bits .u64)))).fdiv 4294967296))) (U (v19 - 1)))) else (k16 v19))
def bits_Div64_j13 (φ : Nat) (v1 : Int) (v2 : Int) (v3 : Int) (y8 : (Int)) (v12 : Int) : Option (Int × Int) := ck (((U (v3 * 2 ^ (min ((U (y8)) : Int).toNat (IntKind.bits .u64)))).fdiv 4294967296) ≠ 0) ((bits_Div64_L20 φ v2 v3 y8 (bits_Div64_j16 φ v1 v2 v3 y8 v12) φ (U ((U ((U ((U ((U ((BitVec.ofInt (IntKind.bits .u64) (U (v1 * 2 ^ (min ((U (y8)) : Int).toNat (IntKind.bits .u64)))) ||| BitVec.ofInt (IntKind.bits .u64) (v2.fdiv (2 ^ (min ((U (64 - (U (y8)))) : Int).toNat (IntKind.bits .u64))))).toNat)) * 4294967296)) + ((U (v2 * 2 ^ (min ((U (y8)) : Int).toNat (IntKind.bits .u64)))).fdiv 4294967296))) - (U (v12 * (U (v3 * 2 ^ (min ((U (y8)) : Int).toNat (IntKind.bits .u64)))))))) - (U ((U ((U ((U ((U ((U ((BitVec.ofInt (IntKind.bits .u64) (U (v1 * 2 ^ (min ((U (y8)) : Int).toNat (IntKind.bits .u64)))) ||| BitVec.ofInt (IntKind.bits .u64) (v2.fdiv (2 ^ (min ((U (64 - (U (y8)))) : Int).toNat (IntKind.bits .u64))))).toNat)) * 4294967296)) + ((U (v2 * 2 ^ (min ((U (y8)) : Int).toNat (IntKind.bits .u64)))).fdiv 4294967296))) - (U (v12 * (U (v3 * 2 ^ (min ((U (y8)) : Int).toNat (IntKind.bits .u64)))))))).tdiv ((U (v3 * 2 ^ (min ((U (y8)) : Int).toNat (IntKind.bits .u64)))).fdiv 4294967296))) * ((U (v3 * 2 ^ (min ((U (y8)) : Int).toNat (IntKind.bits .u64)))).fdiv 4294967296))))) (U ((U ((U ((U ((U ((BitVec.ofInt (IntKind.bits .u64) (U (v1 * 2 ^ (min ((U (y8)) : Int).toNat (IntKind.bits .u64)))) ||| BitVec.ofInt (IntKind.bits .u64) (v2.fdiv (2 ^ (min ((U (64 - (U (y8)))) : Int).toNat (IntKind.bits .u64))))).toNat)) * 4294967296)) + ((U (v2 * 2 ^ (min ((U (y8)) : Int).toNat (IntKind.bits .u64)))).fdiv 4294967296))) - (U (v12 * (U (v3 * 2 ^ (min ((U (y8)) : Int).toNat (IntKind.bits .u64)))))))).tdiv ((U (v3 * 2 ^ (min ((U (y8)) : Int).toNat (IntKind.bits .u64)))).fdiv 4294967296)))))
def bits_Div64_L34 (φ : Nat) (v2 : Int) (v3 : Int) (y8 : (Int)) (k13 : (Int → Option (Int × Int))) : Nat → Int → Int → Option (Int × Int)
  | 0, _, _ => none
  | n34 + 1, v32, v33 => (if (decide (4294967296 ≤ v32) || decide ((U ((U (4294967296 * v33)) + ((U (v2 * 2 ^ (min ((U (y8)) : Int).toNat (IntKind.bits .u64)))).fdiv 4294967296))) < (U (v32 * (U ((BitVec.ofInt (IntKind.bits .u64) (U (v3 * 2 ^ (min ((U (y8)) : Int).toNat (IntKind.bits .u64)))) &&& BitVec.ofInt (IntKind.bits .u64) 4294967295).toNat)))))) = true then (if (decide (4294967296 ≤ (U (v33 + ((U (v3 * 2 ^ (min ((U (y8)) : Int).toNat (IntKind.bits .u64)))).fdiv 4294967296))))) = true then (k13 (U (v32 - 1))) else ((bits_Div64_L34 φ v2 v3 y8 k13 n34) (U (v32 - 1)) (U (v33 + ((U (v3 * 2 ^ (min ((U (y8)) : Int).toNat (IntKind.bits .u64)))).fdiv 4294967296))))) else (k13 v32))
def bits_Div64 (φ : Nat) (v1 : Int) (v2 : Int) (v3 : Int) : Option (Int × Int) := (if (v3 == 0) = true then none else (if (decide (v3 ≤ v1)) = true then none else (if (v1 == 0) = true then ck (v3 ≠ 0) ((some ((U (v2.tdiv v3)), (v2.tmod v3)))) else (bits_LeadingZeros64 φ v3).bind fun y8 => (ck (0 ≤ (U (y8))) (ck (0 ≤ (U (64 - (U (y8))))) (ck (((U (v3 * 2 ^ (min ((U (y8)) : Int).toNat (IntKind.bits .u64)))).fdiv 4294967296) ≠ 0) ((bits_Div64_L34 φ v2 v3 y8 (bits_Div64_j13 φ v1 v2 v3 y8) φ (U ((U ((BitVec.ofInt (IntKind.bits .u64) (U (v1 * 2 ^ (min ((U (y8)) : Int).toNat (IntKind.bits .u64)))) ||| BitVec.ofInt (IntKind.bits .u64) (v2.fdiv (2 ^ (min ((U (64 - (U (y8)))) : Int).toNat (IntKind.bits .u64))))).toNat)).tdiv ((U (v3 * 2 ^ (min ((U (y8)) : Int).toNat (IntKind.bits .u64)))).fdiv 4294967296))) (U ((U ((BitVec.ofInt (IntKind.bits .u64) (U (v1 * 2 ^ (min ((U (y8)) : Int).toNat (IntKind.bits .u64)))) ||| BitVec.ofInt (IntKind.bits .u64) (v2.fdiv (2 ^ (min ((U (64 - (U (y8)))) : Int).toNat (IntKind.bits .u64))))).toNat)) - (U ((U ((U ((BitVec.ofInt (IntKind.bits .u64) (U (v1 * 2 ^ (min ((U (y8)) : Int).toNat (IntKind.bits .u64)))) ||| BitVec.ofInt (IntKind.bits .u64) (v2.fdiv (2 ^ (min ((U (64 - (U (y8)))) : Int).toNat (IntKind.bits .u64))))).toNat)).tdiv ((U (v3 * 2 ^ (min ((U (y8)) : Int).toNat (IntKind.bits .u64)))).fdiv 4294967296))) * ((U (v3 * 2 ^ (min ((U (y8)) : Int).toNat (IntKind.bits .u64)))).fdiv 4294967296)))))))))))))
def ref08_between (φ : Nat) (v1 : Int) (v2 : Int) (v3 : Int) : Option (Bool) := (some (decide (v2 ≤ v1) && decide (v1 ≤ v3)))
def network_place (φ : Nat) (v1 : Place) : Option (Bool) := (if (((decide (v1.fKind < 1) || decide (5 < v1.fKind)) || decide (v1.fRailway < 0)) || decide (16 ≤ v1.fRailway)) = true then (some false) else (if (v1.fKind != 3) = true then (some (v1.fOther == (-1))) else (some ((decide (0 ≤ v1.fOther) && decide (v1.fOther < 16)) && (v1.fOther != v1.fRailway)))))
def ref08_place (φ : Nat) (v1 : Place) : Option (Bool) := (ref08_between φ v1.fKind 1 5).bind fun y3 => ((gcall ((!y3) = false) (ref08_between φ v1.fRailway 0 15)).bind fun y7 => ((if ((!y3) || (!y7)) = true then (some false) else (if (v1.fKind == 3) = true then (ref08_between φ v1.fOther 0 15).bind fun y12 => ((some (y12 && (v1.fOther != v1.fRailway)))) else (some (v1.fOther == (-1)))))))
def ref08_line (φ : Nat) (v1 : Edge) (v2 : Int) : Option (Bool) := (ref08_between φ v1.fA 0 (W (v2 - 1))).bind fun y4 => ((gcall (y4 = true) (ref08_between φ v1.fB 0 (W (v2 - 1)))).bind fun y10 => ((gcall (((y4 && y10) && (v1.fA != v1.fB)) = true) (ref08_between φ v1.fRailway 0 15)).bind fun y21 => ((gcall ((((y4 && y10) && (v1.fA != v1.fB)) && y21) = true) (ref08_between φ v1.fMinutes 1 100000)).bind fun y26 => ((gcall (((((y4 && y10) && (v1.fA != v1.fB)) && y21) && y26) = true) (ref08_between φ v1.fKm 0 10000)).bind fun y31 => ((some (((((y4 && y10) && (v1.fA != v1.fB)) && y21) && y26) && y31)))))))
def ref07_Least (φ : Nat) (v1 : Int) (v2 : Int) : Option (Int) := (some (W ((W ((W (v1 * v2)) + 99)).tdiv 100)))
def ref07_MulDiv_j6 (φ : Nat) (v4 : Int) (v5 : Int) : Option (Int × Int) := (some (v4, v5))
def ref07_MulDiv_j14 (φ : Nat) (v3 : Int) (v7 : Int) (v9 : Int) (k10 : (Int → Int → Int → Option (Int × Int))) (v13 : Int) : Option (Int × Int) := ck (v3 ≠ 0) ((k10 (W ((W (2 * v7)) + (W (v13.tdiv v3)))) (v13.tmod v3) (W (v9 - 1))))
def ref07_MulDiv_L10 (φ : Nat) (v1 : Int) (v2 : Int) (v3 : Int) (k6 : (Int → Int → Option (Int × Int))) : Nat → Int → Int → Int → Option (Int × Int)
  | 0, _, _, _ => none
  | n10 + 1, v7, v8, v9 => (if (decide (0 ≤ v9)) = true then ck (0 ≤ v9) ((if (((v1.fdiv (2 ^ (min (v9 : Int).toNat (IntKind.bits .i64)))).tmod 2) == 1) = true then ((ref07_MulDiv_j14 φ v3 v7 v9 (ref07_MulDiv_L10 φ v1 v2 v3 k6 n10)) (W ((W (2 * v8)) + v2))) else ((ref07_MulDiv_j14 φ v3 v7 v9 (ref07_MulDiv_L10 φ v1 v2 v3 k6 n10)) (W (2 * v8))))) else (k6 v7 v8))
def ref07_MulDiv (φ : Nat) (v1 : Int) (v2 : Int) (v3 : Int) : Option (Int × Int) := (ref07_MulDiv_L10 φ v1 v2 v3 (ref07_MulDiv_j6 φ) φ 0 0 53)
def ref09_validType (φ : Nat) (v1 : WagonType) : Option (Bool) := (ref09_within φ v1.fLoad 0 1000000).bind fun y3 => ((gcall (y3 = true) (ref09_within φ v1.fTare 0 1000000)).bind fun y7 => ((gcall ((y3 && y7) = true) (ref09_within φ v1.fLength 0 1000000)).bind fun y12 => ((gcall (((y3 && y7) && y12) = true) (ref09_within φ v1.fBrake 0 1000000)).bind fun y17 => ((gcall ((((y3 && y7) && y12) && y17) = true) (ref09_within φ v1.fGauge 0 7)).bind fun y22 => ((gcall (((((y3 && y7) && y12) && y17) && y22) = true) (ref09_within φ v1.fLife 1 1073741824)).bind fun y27 => ((gcall ((((((y3 && y7) && y12) && y17) && y22) && y27) = true) (ref09_within φ v1.fFloor 0 100)).bind fun y32 => ((some ((((((y3 && y7) && y12) && y17) && y22) && y27) && y32)))))))))
def ref09_validWagon (φ : Nat) (v1 : Wagon) (v2 : Int) : Option (Bool) := (ref09_within φ v1.fType 0 (W (v2 - 1))).bind fun y4 => ((gcall (y4 = true) (ref09_within φ v1.fOwner 0 63)).bind fun y8 => ((gcall ((y4 && y8) = true) (ref09_within φ v1.fHome 0 511)).bind fun y13 => ((gcall (((y4 && y8) && y13) = true) (ref09_within φ v1.fBuilt 0 1073741824)).bind fun y18 => ((gcall ((((y4 && y8) && y13) && y18) = true) (ref09_within φ v1.fWorth 0 1099511627776)).bind fun y23 => ((some ((((y4 && y8) && y13) && y18) && y23)))))))
def network_Check_j10 (φ : Nat) : Option (Int) := (some 0)
def network_Check_L12 (φ : Nat) (v1 : Network) (k10 : (Option (Int))) : Nat → Int → Option (Int)
  | 0, _ => none
  | n12 + 1, v11 => (if (decide (v11 < (v1.fEdges.length : Int))) = true then ck (0 ≤ v11 ∧ v11 < (v1.fEdges.length : Int)) ((if ((((((decide ((min2 (min2 (min2 ((gt v1.fEdges v11).fA) ((gt v1.fEdges v11).fB)) ((gt v1.fEdges v11).fRailway)) ((gt v1.fEdges v11).fKm)) < 0) || decide ((v1.fPlaces.length : Int) ≤ (max2 ((gt v1.fEdges v11).fA) ((gt v1.fEdges v11).fB)))) || ((gt v1.fEdges v11).fA == (gt v1.fEdges v11).fB)) || decide (16 ≤ (gt v1.fEdges v11).fRailway)) || decide ((gt v1.fEdges v11).fMinutes < 1)) || decide (100000 < (gt v1.fEdges v11).fMinutes)) || decide (10000 < (gt v1.fEdges v11).fKm)) = true then (some 1) else ((network_Check_L12 φ v1 k10 n12) (W (v11 + 1))))) else k10)
def network_Check_j9 (φ : Nat) (v1 : Network) : Option (Int) := (network_Check_L12 φ v1 (network_Check_j10 φ) φ 0)
def network_Check_L48 (φ : Nat) (v1 : Network) (k9 : (Option (Int))) : Nat → Int → Option (Int)
  | 0, _ => none
  | n48 + 1, v47 => (if (decide (v47 < (v1.fPlaces.length : Int))) = true then ck (0 ≤ v47 ∧ v47 < (v1.fPlaces.length : Int)) ((network_place φ (gt v1.fPlaces v47)).bind fun y52 => ((if (!y52) = true then (some 1) else ((network_Check_L48 φ v1 k9 n48) (W (v47 + 1)))))) else k9)
def network_Check (φ : Nat) (v1 : Network) : Option (Int) := (if (decide (512 < (v1.fPlaces.length : Int)) || decide (2048 < (v1.fEdges.length : Int))) = true then (some 2) else (network_Check_L48 φ v1 (network_Check_j9 φ v1) φ 0))
def ref08_Check_j10 (φ : Nat) : Option (Int) := (some 0)
def ref08_Check_L12 (φ : Nat) (v1 : Network) (k10 : (Option (Int))) : Nat → Int → Option (Int)
  | 0, _ => none
  | n12 + 1, v11 => (if (decide (v11 < (v1.fEdges.length : Int))) = true then ck (0 ≤ v11 ∧ v11 < (v1.fEdges.length : Int)) ((ref08_line φ (gt v1.fEdges v11) (v1.fPlaces.length : Int)).bind fun y15 => ((if (!y15) = true then (some 1) else ((ref08_Check_L12 φ v1 k10 n12) (W (v11 + 1)))))) else k10)
def ref08_Check_j9 (φ : Nat) (v1 : Network) : Option (Int) := (ref08_Check_L12 φ v1 (ref08_Check_j10 φ) φ 0)
def ref08_Check_L18 (φ : Nat) (v1 : Network) (k9 : (Option (Int))) : Nat → Int → Option (Int)
  | 0, _ => none
  | n18 + 1, v17 => (if (decide (v17 < (v1.fPlaces.length : Int))) = true then ck (0 ≤ v17 ∧ v17 < (v1.fPlaces.length : Int)) ((ref08_place φ (gt v1.fPlaces v17)).bind fun y21 => ((if (!y21) = true then (some 1) else ((ref08_Check_L18 φ v1 k9 n18) (W (v17 + 1)))))) else k9)
def ref08_Check (φ : Nat) (v1 : Network) : Option (Int) := (if (decide (512 < (v1.fPlaces.length : Int)) || decide (2048 < (v1.fEdges.length : Int))) = true then (some 2) else (ref08_Check_L18 φ v1 (ref08_Check_j9 φ v1) φ 0))
def calendar_Check_j4 (φ : Nat) : Option (Int) := (some 0)
def calendar_Check_L7 (φ : Nat) (v1 : Calendar) (k4 : (Option (Int))) : Nat → Int → Int → Option (Int)
  | 0, _, _ => none
  | n7 + 1, v5, v6 => (if (decide (v6 < (v1.fHolidays.length : Int))) = true then ck (0 ≤ v6 ∧ v6 < (v1.fHolidays.length : Int)) ((if (decide ((gt v1.fHolidays v6) ≤ v5) || decide (745654 < (gt v1.fHolidays v6))) = true then (some 1) else ((calendar_Check_L7 φ v1 k4 n7) (gt v1.fHolidays v6) (W (v6 + 1))))) else k4)
def calendar_Check_j3 (φ : Nat) (v1 : Calendar) : Option (Int) := (calendar_Check_L7 φ v1 (calendar_Check_j4 φ) φ (-1) 0)
def calendar_Check_L15 (φ : Nat) (v1 : Calendar) (k3 : (Option (Int))) : Nat → Int → Option (Int)
  | 0, _ => none
  | n15 + 1, v14 => (if (decide (v14 < 7)) = true then ck (0 ≤ v14 ∧ v14 < 7) ((if ((decide ((v1.fOpen (v14 : Int).toNat).fFrom < 0) || decide ((v1.fOpen (v14 : Int).toNat).fTo < (v1.fOpen (v14 : Int).toNat).fFrom)) || decide (1440 < (v1.fOpen (v14 : Int).toNat).fTo)) = true then (some 1) else ((calendar_Check_L15 φ v1 k3 n15) (W (v14 + 1))))) else k3)
def calendar_Check (φ : Nat) (v1 : Calendar) : Option (Int) := (calendar_Check_L15 φ v1 (calendar_Check_j3 φ v1) φ 0)
def ref06_Check_j4 (φ : Nat) : Option (Int) := (some 0)
def ref06_Check_L6 (φ : Nat) (v1 : Calendar) (k4 : (Option (Int))) : Nat → Int → Option (Int)
  | 0, _ => none
  | n6 + 1, v5 => (if (decide (v5 < (v1.fHolidays.length : Int))) = true then ck (0 ≤ v5 ∧ v5 < (v1.fHolidays.length : Int)) (ck ((((decide ((gt v1.fHolidays v5) < 0) || decide (745654 < (gt v1.fHolidays v5))) = false) ∧ (decide (0 < v5) = true)) → (0 ≤ (W (v5 - 1)) ∧ (W (v5 - 1)) < (v1.fHolidays.length : Int))) ((if ((decide ((gt v1.fHolidays v5) < 0) || decide (745654 < (gt v1.fHolidays v5))) || (decide (0 < v5) && decide ((gt v1.fHolidays v5) ≤ (gt v1.fHolidays (W (v5 - 1)))))) = true then (some 1) else ((ref06_Check_L6 φ v1 k4 n6) (W (v5 + 1)))))) else k4)
def ref06_Check_j3 (φ : Nat) (v1 : Calendar) : Option (Int) := (ref06_Check_L6 φ v1 (ref06_Check_j4 φ) φ 0)
def ref06_Check_L29 (φ : Nat) (v1 : Calendar) (k3 : (Option (Int))) : Nat → Int → Option (Int)
  | 0, _ => none
  | n29 + 1, v28 => (if (decide (v28 < 7)) = true then ck (0 ≤ v28 ∧ v28 < 7) ((if ((decide ((v1.fOpen ((v28 : Int).toNat)).fFrom < 0) || decide ((v1.fOpen ((v28 : Int).toNat)).fTo < (v1.fOpen ((v28 : Int).toNat)).fFrom)) || decide (1440 < (v1.fOpen ((v28 : Int).toNat)).fTo)) = true then (some 1) else ((ref06_Check_L29 φ v1 k3 n29) (W (v28 + 1))))) else k3)
def ref06_Check (φ : Nat) (v1 : Calendar) : Option (Int) := (ref06_Check_L29 φ v1 (ref06_Check_j3 φ v1) φ 0)
def sign_Pow_j6 (φ : Nat) (v5 : Int) : Option (Int) := (some v5)
def sign_Pow_j16 (φ : Nat) (v8 : Int) (k9 : (Int → Int → Option (Int))) (v15 : Int) : Option (Int) := (k9 v15 (W (v8 + 1)))
def sign_Pow_L9 (φ : Nat) (v1 : Int) (v2 : Int) (y4 : (Int)) (k6 : (Int → Option (Int))) : Nat → Int → Int → Option (Int)
  | 0, _, _ => none
  | n9 + 1, v7, v8 => (if (decide (v8 < y4)) = true then (bits_Mul64 φ (v7.tmod 2305843009213690799) (v7.tmod 2305843009213690799)).bind fun y11 => ((bits_Div64 φ y11.1 y11.2 2305843009213690799).bind fun y12 => ((bits_Len64 φ v2).bind fun y13 => (ck (0 ≤ (W ((W (y13 - 1)) - v8))) ((if ((U ((BitVec.ofInt (IntKind.bits .u64) (v2.fdiv (2 ^ (min ((W ((W (y13 - 1)) - v8)) : Int).toNat (IntKind.bits .u64)))) &&& BitVec.ofInt (IntKind.bits .u64) 1).toNat)) == 1) = true then (bits_Mul64 φ (y12.2.tmod 2305843009213690799) (v1.tmod 2305843009213690799)).bind fun y18 => ((bits_Div64 φ y18.1 y18.2 2305843009213690799).bind fun y19 => (((sign_Pow_j16 φ v8 (sign_Pow_L9 φ v1 v2 y4 k6 n9)) y19.2))) else ((sign_Pow_j16 φ v8 (sign_Pow_L9 φ v1 v2 y4 k6 n9)) y12.2)))))) else (k6 v7))
def sign_Pow (φ : Nat) (v1 : Int) (v2 : Int) : Option (Int) := (bits_Len64 φ v2).bind fun y4 => ((sign_Pow_L9 φ v1 v2 y4 (sign_Pow_j6 φ) φ 1 0))
def sign_Valid (φ : Nat) (v1 : Int) : Option (Bool) := (gcall ((decide (2 ≤ v1) && decide (v1 < 2305843009213690799)) = true) (sign_Pow φ v1 1152921504606845399)).bind fun y7 => ((some ((decide (2 ≤ v1) && decide (v1 < 2305843009213690799)) && (y7 == 1))))
def ref03_Times_j5 (φ : Nat) (v4 : Int) : Option (Int) := (some v4)
def ref03_Times_j12 (φ : Nat) (v3 : Int) (v6 : Int) (v7 : Int) (k9 : (Int → Int → Int → Option (Int))) (v11 : Int) : Option (Int) := ck (v3 ≠ 0) ((k9 ((U (v6 + v6)).tmod v3) (U (v7.tdiv 2)) v11))
def ref03_Times_L9 (φ : Nat) (v3 : Int) (k5 : (Int → Option (Int))) : Nat → Int → Int → Int → Option (Int)
  | 0, _, _, _ => none
  | n9 + 1, v6, v7, v8 => (if (decide (0 < v7)) = true then (if ((v7.tmod 2) == 1) = true then ck (v3 ≠ 0) (((ref03_Times_j12 φ v3 v6 v7 (ref03_Times_L9 φ v3 k5 n9)) ((U (v8 + v6)).tmod v3))) else ((ref03_Times_j12 φ v3 v6 v7 (ref03_Times_L9 φ v3 k5 n9)) v8)) else (k5 v8))
def ref03_Times (φ : Nat) (v1 : Int) (v2 : Int) (v3 : Int) : Option (Int) := (ref03_Times_L9 φ v3 (ref03_Times_j5 φ) φ v1 v2 0)
def ref03_Pow_j4 (φ : Nat) (v3 : Int) : Option (Int) := (some v3)
def ref03_Pow_j11 (φ : Nat) (v5 : Int) (v6 : Int) (k8 : (Int → Int → Int → Option (Int))) (v10 : Int) : Option (Int) := (ref03_Times φ v5 v5 2305843009213690799).bind fun y12 => ((k8 y12 (U (v6.tdiv 2)) v10))
def ref03_Pow_L8 (φ : Nat) (k4 : (Int → Option (Int))) : Nat → Int → Int → Int → Option (Int)
  | 0, _, _, _ => none
  | n8 + 1, v5, v6, v7 => (if (decide (0 < v6)) = true then (if ((v6.tmod 2) == 1) = true then (ref03_Times φ v7 v5 2305843009213690799).bind fun y14 => (((ref03_Pow_j11 φ v5 v6 (ref03_Pow_L8 φ k4 n8)) y14)) else ((ref03_Pow_j11 φ v5 v6 (ref03_Pow_L8 φ k4 n8)) v7)) else (k4 v7))
def ref03_Pow (φ : Nat) (v1 : Int) (v2 : Int) : Option (Int) := (ref03_Pow_L8 φ (ref03_Pow_j4 φ) φ (v1.tmod 2305843009213690799) v2 1)
def ref03_Valid (φ : Nat) (v1 : Int) : Option (Bool) := (gcall ((decide (2 ≤ v1) && decide (v1 < 2305843009213690799)) = true) (ref03_Pow φ v1 1152921504606845399)).bind fun y7 => ((some ((decide (2 ≤ v1) && decide (v1 < 2305843009213690799)) && (y7 == 1))))
def money_Worth (φ : Nat) (v1 : Int) (v2 : Int) (v3 : Int) (v4 : Int) (v5 : Int) : Option (Int × Int) := (gcall (decide (v1 < 0) = false) (money_in φ [v1])).bind fun y10 => ((if ((((((decide (v1 < 0) || (!y10)) || decide ((min2 v2 v3) < 0)) || decide (1073741824 < (max2 (max2 v2 v3) v4))) || decide (v4 < 1)) || decide (v5 < 0)) || decide (100 < v5)) = true then (some (0, 1)) else (if (decide ((W (v3 - v2)) ≤ 0)) = true then (some (v1, 0)) else (if (decide (v4 ≤ (W (v3 - v2)))) = true then (some ((W ((W ((W (v1 * v5)) + 99)).tdiv 100)), 0)) else (bits_Mul64 φ (U (v1)) (U ((W (v3 - v2))))).bind fun y36 => ((bits_Div64 φ y36.1 y36.2 (U (v4))).bind fun y37 => ((some ((max2 (W ((W ((W (v1 * v5)) + 99)).tdiv 100)) (W (v1 - (W (y37.1))))), 0))))))))
def ref07_Worth (φ : Nat) (v1 : Int) (v2 : Int) (v3 : Int) (v4 : Int) (v5 : Int) : Option (Int × Int) := (if (((((((((decide (v1 < 0) || decide (9007199254740992 < v1)) || decide (v2 < 0)) || decide (1073741824 < v2)) || decide (v3 < 0)) || decide (1073741824 < v3)) || decide (v4 < 1)) || decide (1073741824 < v4)) || decide (v5 < 0)) || decide (100 < v5)) = true then (some (0, 1)) else (if (decide (v3 ≤ v2)) = true then (some (v1, 0)) else (if (decide (v4 ≤ (W (v3 - v2)))) = true then (ref07_Least φ v1 v5).bind fun y36 => ((some (y36, 0))) else (ref07_MulDiv φ v1 (W (v3 - v2)) v4).bind fun y37 => ((ref07_Least φ v1 v5).bind fun y38 => ((some ((max2 y38 (W (v1 - y37.1))), 0)))))))
def fleet_Check_j28 (φ : Nat) (v27 : Int) : Option (Int) := (some v27)
def fleet_Check_j57 (φ : Nat) (v29 : Int) (k32 : (Int → Int → (Nat → Bool) → Option (Int))) (v55 : Int) (v56 : (Nat → Bool)) : Option (Int) := (k32 (W (v29 + 1)) v55 v56)
def fleet_Check_j63 (φ : Nat) (v1 : Fleet) (v29 : Int) (v31 : (Nat → Bool)) (k57 : (Int → (Nat → Bool) → Option (Int))) (v62 : Int) : Option (Int) := (k57 v62 (upd v31 (((gt v1.fWashes v29).fFrom : Int).toNat * 64 + ((gt v1.fWashes v29).fTo : Int).toNat) true))
def fleet_Check_j54 (φ : Nat) (v1 : Fleet) (v29 : Int) (v31 : (Nat → Bool)) (k32 : (Int → Int → (Nat → Bool) → Option (Int))) (y36 : (Bool)) (y40 : (Bool)) (y51 : (Bool)) (v53 : Int) : Option (Int) := (if (((y36 && y40) && ((gt v1.fWashes v29).fFrom != (gt v1.fWashes v29).fTo)) && y51) = true then ck (0 ≤ (gt v1.fWashes v29).fFrom ∧ (gt v1.fWashes v29).fFrom < 64) (ck (0 ≤ (gt v1.fWashes v29).fTo ∧ (gt v1.fWashes v29).fTo < 64) ((if (!(!(v31 (((gt v1.fWashes v29).fFrom : Int).toNat * 64 + ((gt v1.fWashes v29).fTo : Int).toNat)))) = true then ((fleet_Check_j63 φ v1 v29 v31 (fleet_Check_j57 φ v29 k32)) 1) else ((fleet_Check_j63 φ v1 v29 v31 (fleet_Check_j57 φ v29 k32)) v53)))) else ((fleet_Check_j57 φ v29 k32) v53 v31))
def fleet_Check_L32 (φ : Nat) (v1 : Fleet) (k28 : (Int → Option (Int))) : Nat → Int → Int → (Nat → Bool) → Option (Int)
  | 0, _, _, _ => none
  | n32 + 1, v29, v30, v31 => (if (decide (v29 < (v1.fWashes.length : Int))) = true then ck (0 ≤ v29 ∧ v29 < (v1.fWashes.length : Int)) ((fleet_between φ ((gt v1.fWashes v29).fFrom) 0 63).bind fun y36 => ((gcall (y36 = true) (fleet_between φ ((gt v1.fWashes v29).fTo) 0 63)).bind fun y40 => ((gcall (((y36 && y40) && ((gt v1.fWashes v29).fFrom != (gt v1.fWashes v29).fTo)) = true) (fleet_between φ ((gt v1.fWashes v29).fMinutes) 0 100000)).bind fun y51 => ((if (!(((y36 && y40) && ((gt v1.fWashes v29).fFrom != (gt v1.fWashes v29).fTo)) && y51)) = true then ((fleet_Check_j54 φ v1 v29 v31 (fleet_Check_L32 φ v1 k28 n32) y36 y40 y51) 1) else ((fleet_Check_j54 φ v1 v29 v31 (fleet_Check_L32 φ v1 k28 n32) y36 y40 y51) v30)))))) else (k28 v30))
def fleet_Check_j25 (φ : Nat) (v1 : Fleet) (v24 : Int) : Option (Int) := (fleet_Check_L32 φ v1 (fleet_Check_j28 φ) φ 0 v24 (fun _ => false))
def fleet_Check_j95 (φ : Nat) (v67 : Int) (k69 : (Int → Int → Option (Int))) (v94 : Int) : Option (Int) := (k69 (W (v67 + 1)) v94)
def fleet_Check_L69 (φ : Nat) (v1 : Fleet) (k25 : (Int → Option (Int))) : Nat → Int → Int → Option (Int)
  | 0, _, _ => none
  | n69 + 1, v67, v68 => (if (decide (v67 < (v1.fSwaps.length : Int))) = true then ck (0 ≤ v67 ∧ v67 < (v1.fSwaps.length : Int)) ((fleet_between φ ((gt v1.fSwaps v67).fWanted) 0 (W ((v1.fTypes.length : Int) - 1))).bind fun y73 => ((gcall (y73 = true) (fleet_between φ ((gt v1.fSwaps v67).fGiven) 0 (W ((v1.fTypes.length : Int) - 1)))).bind fun y81 => ((gcall (((y73 && y81) && ((gt v1.fSwaps v67).fWanted != (gt v1.fSwaps v67).fGiven)) = true) (fleet_between φ ((gt v1.fSwaps v67).fCost) 0 1000000000)).bind fun y92 => ((if (!(((y73 && y81) && ((gt v1.fSwaps v67).fWanted != (gt v1.fSwaps v67).fGiven)) && y92)) = true then ((fleet_Check_j95 φ v67 (fleet_Check_L69 φ v1 k25 n69)) 1) else ((fleet_Check_j95 φ v67 (fleet_Check_L69 φ v1 k25 n69)) v68)))))) else (k25 v68))
def fleet_Check_j23 (φ : Nat) (v1 : Fleet) (v22 : Int) : Option (Int) := (fleet_Check_L69 φ v1 (fleet_Check_j25 φ v1) φ 0 v22)
def fleet_Check_j123 (φ : Nat) (v97 : Int) (k99 : (Int → Int → Option (Int))) (v122 : Int) : Option (Int) := (k99 (W (v97 + 1)) v122)
def fleet_Check_j115 (φ : Nat) (v1 : Fleet) (v97 : Int) (k99 : (Int → Int → Option (Int))) (v114 : Int) : Option (Int) := (fleet_between φ ((gt v1.fWagons v97).fBuilt) 0 1073741824).bind fun y116 => ((gcall (y116 = true) (fleet_between φ ((gt v1.fWagons v97).fWorth) 0 1099511627776)).bind fun y120 => ((if (!(y116 && y120)) = true then ((fleet_Check_j123 φ v97 k99) 1) else ((fleet_Check_j123 φ v97 k99) v114))))
def fleet_Check_L99 (φ : Nat) (v1 : Fleet) (k23 : (Int → Option (Int))) : Nat → Int → Int → Option (Int)
  | 0, _, _ => none
  | n99 + 1, v97, v98 => (if (decide (v97 < (v1.fWagons.length : Int))) = true then ck (0 ≤ v97 ∧ v97 < (v1.fWagons.length : Int)) ((fleet_between φ ((gt v1.fWagons v97).fType) 0 (W ((v1.fTypes.length : Int) - 1))).bind fun y103 => ((gcall (y103 = true) (fleet_between φ ((gt v1.fWagons v97).fOwner) 0 63)).bind fun y107 => ((gcall ((y103 && y107) = true) (fleet_between φ ((gt v1.fWagons v97).fHome) 0 511)).bind fun y112 => ((if (!((y103 && y107) && y112)) = true then ((fleet_Check_j115 φ v1 v97 (fleet_Check_L99 φ v1 k23 n99)) 1) else ((fleet_Check_j115 φ v1 v97 (fleet_Check_L99 φ v1 k23 n99)) v98)))))) else (k23 v98))
def fleet_Check_j21 (φ : Nat) (v1 : Fleet) (v20 : Int) : Option (Int) := (fleet_Check_L99 φ v1 (fleet_Check_j23 φ v1) φ 0 v20)
def fleet_Check_j131 (φ : Nat) (v126 : Int) (k128 : (Int → Int → Option (Int))) (v130 : Int) : Option (Int) := (k128 (W (v126 + 1)) v130)
def fleet_Check_j149 (φ : Nat) (k131 : (Int → Option (Int))) (v148 : Int) : Option (Int) := (k131 v148)
def fleet_Check_j136 (φ : Nat) (v1 : Fleet) (v126 : Int) (k131 : (Int → Option (Int))) (v135 : Int) : Option (Int) := (fleet_between φ ((gt v1.fTypes v126).fGauge) 0 7).bind fun y137 => ((gcall (y137 = true) (fleet_between φ ((gt v1.fTypes v126).fLife) 1 1073741824)).bind fun y141 => ((gcall ((y137 && y141) = true) (fleet_between φ ((gt v1.fTypes v126).fFloor) 0 100)).bind fun y146 => ((if (!((y137 && y141) && y146)) = true then ((fleet_Check_j149 φ k131) 1) else ((fleet_Check_j149 φ k131) v135)))))
def fleet_Check_j158 (φ : Nat) (v151 : Int) (k153 : (Int → Int → Option (Int))) (v157 : Int) : Option (Int) := (k153 (W (v151 + 1)) v157)
def fleet_Check_L153 (φ : Nat) (v1 : Fleet) (v126 : Int) (k136 : (Int → Option (Int))) : Nat → Int → Int → Option (Int)
  | 0, _, _ => none
  | n153 + 1, v151, v152 => (if (decide (v151 < ([(gt v1.fTypes v126).fLoad, (gt v1.fTypes v126).fTare, (gt v1.fTypes v126).fLength, (gt v1.fTypes v126).fBrake].length : Int))) = true then ck (0 ≤ v151 ∧ v151 < ([(gt v1.fTypes v126).fLoad, (gt v1.fTypes v126).fTare, (gt v1.fTypes v126).fLength, (gt v1.fTypes v126).fBrake].length : Int)) ((fleet_between φ (gt [(gt v1.fTypes v126).fLoad, (gt v1.fTypes v126).fTare, (gt v1.fTypes v126).fLength, (gt v1.fTypes v126).fBrake] v151) 0 1000000).bind fun y156 => ((if (!y156) = true then ((fleet_Check_j158 φ v151 (fleet_Check_L153 φ v1 v126 k136 n153)) 1) else ((fleet_Check_j158 φ v151 (fleet_Check_L153 φ v1 v126 k136 n153)) v152)))) else (k136 v152))
def fleet_Check_L128 (φ : Nat) (v1 : Fleet) (k21 : (Int → Option (Int))) : Nat → Int → Int → Option (Int)
  | 0, _, _ => none
  | n128 + 1, v126, v127 => (if (decide (v126 < (v1.fTypes.length : Int))) = true then ck (0 ≤ v126 ∧ v126 < (v1.fTypes.length : Int)) ((fleet_Check_L153 φ v1 v126 (fleet_Check_j136 φ v1 v126 (fleet_Check_j131 φ v126 (fleet_Check_L128 φ v1 k21 n128))) φ 0 v127)) else (k21 v127))
def fleet_Check (φ : Nat) (v1 : Fleet) : Option (Int) := (if (((decide (32 < (v1.fTypes.length : Int)) || decide (4096 < (v1.fWagons.length : Int))) || decide (1024 < (v1.fSwaps.length : Int))) || decide (4096 < (v1.fWashes.length : Int))) = true then (some 2) else (fleet_Check_L128 φ v1 (fleet_Check_j21 φ v1) φ 0 0))
def ref09_washes_j4 (φ : Nat) : Option (Int) := (some 0)
def ref09_washes_L7 (φ : Nat) (v1 : (List Wash)) (k4 : (Option (Int))) : Nat → Int → (List Bool) → Option (Int)
  | 0, _, _ => none
  | n7 + 1, v5, v6 => (if (decide (v5 < (v1.length : Int))) = true then ck (0 ≤ v5 ∧ v5 < (v1.length : Int)) ((ref09_within φ ((gt v1 v5).fFrom) 0 63).bind fun y11 => ((gcall ((!y11) = false) (ref09_within φ ((gt v1 v5).fTo) 0 63)).bind fun y15 => ((gcall ((((!y11) || (!y15)) || ((gt v1 v5).fFrom == (gt v1 v5).fTo)) = false) (ref09_within φ ((gt v1 v5).fMinutes) 0 100000)).bind fun y27 => ((if ((((!y11) || (!y15)) || ((gt v1 v5).fFrom == (gt v1 v5).fTo)) || (!y27)) = true then (some 1) else ck (0 ≤ (W ((W (64 * ((gt v1 v5).fFrom))) + ((gt v1 v5).fTo))) ∧ (W ((W (64 * ((gt v1 v5).fFrom))) + ((gt v1 v5).fTo))) < (v6.length : Int)) ((if (gt v6 (W ((W (64 * ((gt v1 v5).fFrom))) + ((gt v1 v5).fTo)))) = true then (some 1) else ((ref09_washes_L7 φ v1 k4 n7) (W (v5 + 1)) (setAt v6 (W ((W (64 * ((gt v1 v5).fFrom))) + ((gt v1 v5).fTo))) true))))))))) else k4)
def ref09_washes (φ : Nat) (v1 : (List Wash)) : Option (Int) := ck (makes 4096 1) ((ref09_washes_L7 φ v1 (ref09_washes_j4 φ) φ 0 (List.replicate (4096 : Int).toNat false)))
def ref09_Check_j21 (φ : Nat) (v1 : Fleet) : Option (Int) := (ref09_washes φ v1.fWashes).bind fun y22 => ((some y22))
def ref09_Check_L24 (φ : Nat) (v1 : Fleet) (k21 : (Option (Int))) : Nat → Int → Option (Int)
  | 0, _ => none
  | n24 + 1, v23 => (if (decide (v23 < (v1.fSwaps.length : Int))) = true then ck (0 ≤ v23 ∧ v23 < (v1.fSwaps.length : Int)) ((ref09_within φ ((gt v1.fSwaps v23).fWanted) 0 (W ((v1.fTypes.length : Int) - 1))).bind fun y28 => ((gcall ((!y28) = false) (ref09_within φ ((gt v1.fSwaps v23).fGiven) 0 (W ((v1.fTypes.length : Int) - 1)))).bind fun y36 => ((gcall ((((!y28) || (!y36)) || ((gt v1.fSwaps v23).fWanted == (gt v1.fSwaps v23).fGiven)) = false) (ref09_within φ ((gt v1.fSwaps v23).fCost) 0 1000000000)).bind fun y48 => ((if ((((!y28) || (!y36)) || ((gt v1.fSwaps v23).fWanted == (gt v1.fSwaps v23).fGiven)) || (!y48)) = true then (some 1) else ((ref09_Check_L24 φ v1 k21 n24) (W (v23 + 1)))))))) else k21)
def ref09_Check_j20 (φ : Nat) (v1 : Fleet) : Option (Int) := (ref09_Check_L24 φ v1 (ref09_Check_j21 φ v1) φ 0)
def ref09_Check_L53 (φ : Nat) (v1 : Fleet) (k20 : (Option (Int))) : Nat → Int → Option (Int)
  | 0, _ => none
  | n53 + 1, v52 => (if (decide (v52 < (v1.fWagons.length : Int))) = true then ck (0 ≤ v52 ∧ v52 < (v1.fWagons.length : Int)) ((ref09_validWagon φ (gt v1.fWagons v52) (v1.fTypes.length : Int)).bind fun y56 => ((if (!y56) = true then (some 1) else ((ref09_Check_L53 φ v1 k20 n53) (W (v52 + 1)))))) else k20)
def ref09_Check_j19 (φ : Nat) (v1 : Fleet) : Option (Int) := (ref09_Check_L53 φ v1 (ref09_Check_j20 φ v1) φ 0)
def ref09_Check_L59 (φ : Nat) (v1 : Fleet) (k19 : (Option (Int))) : Nat → Int → Option (Int)
  | 0, _ => none
  | n59 + 1, v58 => (if (decide (v58 < (v1.fTypes.length : Int))) = true then ck (0 ≤ v58 ∧ v58 < (v1.fTypes.length : Int)) ((ref09_validType φ (gt v1.fTypes v58)).bind fun y62 => ((if (!y62) = true then (some 1) else ((ref09_Check_L59 φ v1 k19 n59) (W (v58 + 1)))))) else k19)
def ref09_Check (φ : Nat) (v1 : Fleet) : Option (Int) := (if (((decide (32 < (v1.fTypes.length : Int)) || decide (4096 < (v1.fWagons.length : Int))) || decide (1024 < (v1.fSwaps.length : Int))) || decide (4096 < (v1.fWashes.length : Int))) = true then (some 2) else (ref09_Check_L59 φ v1 (ref09_Check_j19 φ v1) φ 0))
def fleet_wagonOf (φ : Nat) (v1 : Fleet) (v2 : Int) : Option (Wagon × WagonType × Int) := (fleet_Check φ v1).bind fun y6 => ((if (y6 != 0) = true then (some ((Wagon.mk 0 0 0 0 0), (WagonType.mk 0 0 0 0 0 0 0 0), y6)) else (fleet_between φ v2 0 (W ((v1.fWagons.length : Int) - 1))).bind fun y8 => ((if (!y8) = true then (some ((Wagon.mk 0 0 0 0 0), (WagonType.mk 0 0 0 0 0 0 0 0), 90)) else ck (0 ≤ v2 ∧ v2 < (v1.fWagons.length : Int)) (ck (0 ≤ (gt v1.fWagons v2).fType ∧ (gt v1.fWagons v2).fType < (v1.fTypes.length : Int)) ((some ((gt v1.fWagons v2), (gt v1.fTypes ((gt v1.fWagons v2).fType)), 0))))))))
def fleet_Fits (φ : Nat) (v1 : Fleet) (v2 : Int) (v3 : Int) (v4 : Int) : Option (Int) := (fleet_wagonOf φ v1 v2).bind fun y6 => ((if (y6.2.2 != 0) = true then (some y6.2.2) else (fleet_between φ v3 0 63).bind fun y10 => (ck (((!y10) = false) → (0 ≤ v3)) ((gcall (((!y10) || ((U ((BitVec.ofInt (IntKind.bits .u64) y6.2.1.fClasses &&& BitVec.ofInt (IntKind.bits .u64) (U (1 * 2 ^ (min (v3 : Int).toNat (IntKind.bits .u64))))).toNat)) == 0)) = false) (fleet_between φ v4 0 y6.2.1.fLoad)).bind fun y23 => ((if (((!y10) || ((U ((BitVec.ofInt (IntKind.bits .u64) y6.2.1.fClasses &&& BitVec.ofInt (IntKind.bits .u64) (U (1 * 2 ^ (min (v3 : Int).toNat (IntKind.bits .u64))))).toNat)) == 0)) || (!y23)) = true then (some 91) else (some 0)))))))
def ref09_Fits (φ : Nat) (v1 : Fleet) (v2 : Int) (v3 : Int) (v4 : Int) : Option (Int) := (ref09_Check φ v1).bind fun y6 => ((if (y6 != 0) = true then (some y6) else (ref09_within φ v2 0 (W ((v1.fWagons.length : Int) - 1))).bind fun y8 => ((if (!y8) = true then (some 90) else ck (0 ≤ v2 ∧ v2 < (v1.fWagons.length : Int)) (ck (0 ≤ (gt v1.fWagons v2).fType ∧ (gt v1.fWagons v2).fType < (v1.fTypes.length : Int)) ((ref09_within φ v3 0 63).bind fun y16 => (ck (((!y16) = false) → (0 ≤ v3)) ((gcall (((!y16) || ((U ((BitVec.ofInt (IntKind.bits .u64) (((gt v1.fTypes ((gt v1.fWagons v2).fType)).fClasses).fdiv (2 ^ (min (v3 : Int).toNat (IntKind.bits .u64)))) &&& BitVec.ofInt (IntKind.bits .u64) 1).toNat)) == 0)) = false) (ref09_within φ v4 0 ((gt v1.fTypes ((gt v1.fWagons v2).fType)).fLoad))).bind fun y29 => ((if (((!y16) || ((U ((BitVec.ofInt (IntKind.bits .u64) (((gt v1.fTypes ((gt v1.fWagons v2).fType)).fClasses).fdiv (2 ^ (min (v3 : Int).toNat (IntKind.bits .u64)))) &&& BitVec.ofInt (IntKind.bits .u64) 1).toNat)) == 0)) || (!y29)) = true then (some 91) else (some 0)))))))))))
def fleet_Given_j16 (φ : Nat) (v14 : (List Swap)) : Option ((List Swap) × Int) := (some (v14, 0))
def fleet_Given_j25 (φ : Nat) (v17 : Int) (k20 : (Int → (List Swap) → Option ((List Swap) × Int))) (v23 : (List Swap)) : Option ((List Swap) × Int) := (k20 (W (v17 + 1)) v23)
def fleet_Given_L20 (φ : Nat) (v1 : Fleet) (v2 : Int) (v12 : (Nat → Int)) (k16 : ((List Swap) → Option ((List Swap) × Int))) : Nat → Int → (List Swap) → Option ((List Swap) × Int)
  | 0, _, _ => none
  | n20 + 1, v17, v18 => (if (decide (v17 < (v1.fTypes.length : Int))) = true then ck (0 ≤ v17 ∧ v17 < 32) ((if (decide (0 ≤ (v12 ((v17 : Int).toNat)))) = true then ck (fits (v18.length + [(Swap.mk v2 v17 (v12 ((v17 : Int).toNat)))].length) 24) (((fleet_Given_j25 φ v17 (fleet_Given_L20 φ v1 v2 v12 k16 n20)) (v18 ++ [(Swap.mk v2 v17 (v12 ((v17 : Int).toNat)))]))) else ((fleet_Given_j25 φ v17 (fleet_Given_L20 φ v1 v2 v12 k16 n20)) v18))) else (k16 v18))
def fleet_Given_j13 (φ : Nat) (v1 : Fleet) (v2 : Int) (v12 : (Nat → Int)) : Option ((List Swap) × Int) := (fleet_Given_L20 φ v1 v2 v12 (fleet_Given_j16 φ) φ 0 ([] : List Swap))
def fleet_Given_j62 (φ : Nat) (v35 : Int) (k37 : (Bool → Int → (Nat → Int) → Option ((List Swap) × Int))) (v60 : Bool) (v61 : (Nat → Int)) : Option ((List Swap) × Int) := (k37 v60 (W (v35 + 1)) v61)
def fleet_Given_L37 (φ : Nat) (v1 : Fleet) (k32 : (Bool → (Nat → Int) → Option ((List Swap) × Int))) : Nat → Bool → Int → (Nat → Int) → Option ((List Swap) × Int)
  | 0, _, _, _ => none
  | n37 + 1, v34, v35, v36 => (if (decide (v35 < (v1.fSwaps.length : Int))) = true then ck (0 ≤ v35 ∧ v35 < (v1.fSwaps.length : Int)) (ck (0 ≤ (gt v1.fSwaps v35).fWanted ∧ (gt v1.fSwaps v35).fWanted < 32) (ck (0 ≤ (gt v1.fSwaps v35).fWanted ∧ (gt v1.fSwaps v35).fWanted < 32) (ck ((decide (0 ≤ (v36 (((gt v1.fSwaps v35).fWanted : Int).toNat))) = true) → (0 ≤ (gt v1.fSwaps v35).fGiven ∧ (gt v1.fSwaps v35).fGiven < 32)) (ck (((decide (0 ≤ (v36 (((gt v1.fSwaps v35).fWanted : Int).toNat))) = true) ∧ (decide ((v36 (((gt v1.fSwaps v35).fGiven : Int).toNat)) < 0) = false)) → (0 ≤ (gt v1.fSwaps v35).fGiven ∧ (gt v1.fSwaps v35).fGiven < 32)) ((if (decide (0 ≤ (v36 (((gt v1.fSwaps v35).fWanted : Int).toNat))) && (decide ((v36 (((gt v1.fSwaps v35).fGiven : Int).toNat)) < 0) || decide ((W ((v36 (((gt v1.fSwaps v35).fWanted : Int).toNat)) + ((gt v1.fSwaps v35).fCost))) < (v36 (((gt v1.fSwaps v35).fGiven : Int).toNat))))) = true then ck (0 ≤ (gt v1.fSwaps v35).fGiven ∧ (gt v1.fSwaps v35).fGiven < 32) (((fleet_Given_j62 φ v35 (fleet_Given_L37 φ v1 k32 n37)) true (upd v36 (((gt v1.fSwaps v35).fGiven : Int).toNat) (W ((v36 (((gt v1.fSwaps v35).fWanted : Int).toNat)) + ((gt v1.fSwaps v35).fCost)))))) else ((fleet_Given_j62 φ v35 (fleet_Given_L37 φ v1 k32 n37)) v34 v36))))))) else (k32 v34 v36))
def fleet_Given_L32 (φ : Nat) (v1 : Fleet) (k13 : ((Nat → Int) → Option ((List Swap) × Int))) : Nat → Bool → (Nat → Int) → Option ((List Swap) × Int)
  | 0, _, _ => none
  | n32 + 1, v30, v31 => (if v30 = true then (fleet_Given_L37 φ v1 (fleet_Given_L32 φ v1 k13 n32) φ false 0 v31) else (k13 v31))
def fleet_Given_j10 (φ : Nat) (v1 : Fleet) (v2 : Int) (v9 : (Nat → Int)) : Option ((List Swap) × Int) := ck (0 ≤ v2 ∧ v2 < 32) ((fleet_Given_L32 φ v1 (fleet_Given_j13 φ v1 v2) φ true (upd v9 ((v2 : Int).toNat) 0)))
def fleet_Given_L67 (φ : Nat) (k10 : ((Nat → Int) → Option ((List Swap) × Int))) : Nat → Int → (Nat → Int) → Option ((List Swap) × Int)
  | 0, _, _ => none
  | n67 + 1, v65, v66 => (if (decide (v65 < 32)) = true then ck (0 ≤ v65 ∧ v65 < 32) (((fleet_Given_L67 φ k10 n67) (W (v65 + 1)) (upd v66 ((v65 : Int).toNat) (-1)))) else (k10 v66))
def fleet_Given (φ : Nat) (v1 : Fleet) (v2 : Int) : Option ((List Swap) × Int) := (fleet_Check φ v1).bind fun y4 => ((if (y4 != 0) = true then (some (([] : List Swap), y4)) else (fleet_between φ v2 0 (W ((v1.fTypes.length : Int) - 1))).bind fun y6 => ((if (!y6) = true then (some (([] : List Swap), 90)) else (fleet_Given_L67 φ (fleet_Given_j10 φ v1 v2) φ 0 (fun _ => 0))))))
def K_fleet_Given (r : ((List Swap) × Int)) (x : VP) (news : List HP) : Prop := ∃ sv0, x = tupv [eqv sv0, (iv .i64 r.2)] ∧ news = [row 43 eSwap 3 r.1 sv0]
def ref09_Given_j17 (φ : Nat) (v15 : (List Swap)) : Option ((List Swap) × Int) := (some (v15, 0))
def ref09_Given_j26 (φ : Nat) (v18 : Int) (k21 : (Int → (List Swap) → Option ((List Swap) × Int))) (v24 : (List Swap)) : Option ((List Swap) × Int) := (k21 (W (v18 + 1)) v24)
def ref09_Given_L21 (φ : Nat) (v2 : Int) (v13 : (List Int)) (k17 : ((List Swap) → Option ((List Swap) × Int))) : Nat → Int → (List Swap) → Option ((List Swap) × Int)
  | 0, _, _ => none
  | n21 + 1, v18, v19 => (if (decide (v18 < (v13.length : Int))) = true then ck (0 ≤ v18 ∧ v18 < (v13.length : Int)) ((if (decide (0 ≤ (gt v13 v18))) = true then ck (fits (v19.length + [(Swap.mk v2 v18 (gt v13 v18))].length) 24) (((ref09_Given_j26 φ v18 (ref09_Given_L21 φ v2 v13 k17 n21)) (v19 ++ [(Swap.mk v2 v18 (gt v13 v18))]))) else ((ref09_Given_j26 φ v18 (ref09_Given_L21 φ v2 v13 k17 n21)) v19))) else (k17 v19))
def ref09_Given_j14 (φ : Nat) (v2 : Int) (v13 : (List Int)) : Option ((List Swap) × Int) := (ref09_Given_L21 φ v2 v13 (ref09_Given_j17 φ) φ 0 ([] : List Swap))
def ref09_Given_j36 (φ : Nat) (v31 : Int) (k33 : (Int → (List Int) → Option ((List Swap) × Int))) (v35 : (List Int)) : Option ((List Swap) × Int) := (k33 (W (v31 + 1)) v35)
def ref09_Given_j42 (φ : Nat) (v37 : Int) (k39 : (Int → (List Int) → Option ((List Swap) × Int))) (v41 : (List Int)) : Option ((List Swap) × Int) := (k39 (W (v37 + 1)) v41)
def ref09_Given_L39 (φ : Nat) (v1 : Fleet) (k36 : ((List Int) → Option ((List Swap) × Int))) : Nat → Int → (List Int) → Option ((List Swap) × Int)
  | 0, _, _ => none
  | n39 + 1, v37, v38 => (if (decide (v37 < (v1.fSwaps.length : Int))) = true then ck (0 ≤ v37 ∧ v37 < (v1.fSwaps.length : Int)) (ck (0 ≤ (gt v1.fSwaps v37).fWanted ∧ (gt v1.fSwaps v37).fWanted < (v38.length : Int)) ((if (decide ((gt v38 ((gt v1.fSwaps v37).fWanted)) < 0)) = true then ((ref09_Given_j42 φ v37 (ref09_Given_L39 φ v1 k36 n39)) v38) else ck (0 ≤ (gt v1.fSwaps v37).fGiven ∧ (gt v1.fSwaps v37).fGiven < (v38.length : Int)) ((if (decide ((gt v38 ((gt v1.fSwaps v37).fGiven)) < 0) || decide ((W ((gt v38 ((gt v1.fSwaps v37).fWanted)) + ((gt v1.fSwaps v37).fCost))) < (gt v38 ((gt v1.fSwaps v37).fGiven)))) = true then ((ref09_Given_j42 φ v37 (ref09_Given_L39 φ v1 k36 n39)) (setAt v38 ((gt v1.fSwaps v37).fGiven) (W ((gt v38 ((gt v1.fSwaps v37).fWanted)) + ((gt v1.fSwaps v37).fCost))))) else ((ref09_Given_j42 φ v37 (ref09_Given_L39 φ v1 k36 n39)) v38)))))) else (k36 v38))
def ref09_Given_L33 (φ : Nat) (v1 : Fleet) (k14 : ((List Int) → Option ((List Swap) × Int))) : Nat → Int → (List Int) → Option ((List Swap) × Int)
  | 0, _, _ => none
  | n33 + 1, v31, v32 => (if (decide (v31 < (v1.fTypes.length : Int))) = true then (ref09_Given_L39 φ v1 (ref09_Given_j36 φ v31 (ref09_Given_L33 φ v1 k14 n33)) φ 0 v32) else (k14 v32))
def ref09_Given_j11 (φ : Nat) (v1 : Fleet) (v2 : Int) (v10 : (List Int)) : Option ((List Swap) × Int) := ck (0 ≤ v2 ∧ v2 < (v10.length : Int)) ((ref09_Given_L33 φ v1 (ref09_Given_j14 φ v2) φ 0 (setAt v10 v2 0)))
def ref09_Given_L59 (φ : Nat) (k11 : ((List Int) → Option ((List Swap) × Int))) : Nat → Int → (List Int) → Option ((List Swap) × Int)
  | 0, _, _ => none
  | n59 + 1, v57, v58 => (if (decide (v57 < (v58.length : Int))) = true then ck (0 ≤ v57 ∧ v57 < (v58.length : Int)) (((ref09_Given_L59 φ k11 n59) (W (v57 + 1)) (setAt v58 v57 (-1)))) else (k11 v58))
def ref09_Given (φ : Nat) (v1 : Fleet) (v2 : Int) : Option ((List Swap) × Int) := (ref09_Check φ v1).bind fun y4 => ((if (y4 != 0) = true then (some (([] : List Swap), y4)) else (ref09_within φ v2 0 (W ((v1.fTypes.length : Int) - 1))).bind fun y6 => ((if (!y6) = true then (some (([] : List Swap), 90)) else ck (makes (v1.fTypes.length : Int) 8) ((ref09_Given_L59 φ (ref09_Given_j11 φ v1 v2) φ 0 (List.replicate ((v1.fTypes.length : Int) : Int).toNat 0)))))))
def K_ref09_Given (r : ((List Swap) × Int)) (x : VP) (news : List HP) : Prop := ∃ sv0, x = tupv [eqv sv0, (iv .i64 r.2)] ∧ news = [row 43 eSwap 3 r.1 sv0]
def fleet_Clean_j16 (φ : Nat) (v1 : Fleet) : Option (Int × Int) := (if (decide ((-1) < 0)) = true then (some (0, 0)) else ck (0 ≤ (-1) ∧ (-1) < (v1.fWashes.length : Int)) ((some ((gt v1.fWashes (-1)).fMinutes, 0))))
def fleet_Clean_L20 (φ : Nat) (v1 : Fleet) (v2 : Int) (v3 : Int) (k16 : (Option (Int × Int))) : Nat → Int → Option (Int × Int)
  | 0, _ => none
  | n20 + 1, v19 => (if (decide (v19 < (v1.fWashes.length : Int))) = true then ck (0 ≤ v19 ∧ v19 < (v1.fWashes.length : Int)) ((if (((gt v1.fWashes v19).fFrom == v2) && ((gt v1.fWashes v19).fTo == v3)) = true then (if (decide (v19 < 0)) = true then (some (0, 0)) else ck (0 ≤ v19 ∧ v19 < (v1.fWashes.length : Int)) ((some ((gt v1.fWashes v19).fMinutes, 0)))) else ((fleet_Clean_L20 φ v1 v2 v3 k16 n20) (W (v19 + 1))))) else k16)
def fleet_Clean (φ : Nat) (v1 : Fleet) (v2 : Int) (v3 : Int) : Option (Int × Int) := (fleet_Check φ v1).bind fun y7 => ((if (y7 != 0) = true then (some (0, y7)) else (fleet_between φ v2 0 63).bind fun y9 => ((gcall ((!y9) = false) (fleet_between φ v3 0 63)).bind fun y12 => ((if ((!y9) || (!y12)) = true then (some (0, 1)) else (fleet_Clean_L20 φ v1 v2 v3 (fleet_Clean_j16 φ v1) φ 0))))))
def ref09_Clean_j14 (φ : Nat) : Option (Int × Int) := (some (0, 0))
def ref09_Clean_L16 (φ : Nat) (v1 : Fleet) (v2 : Int) (v3 : Int) (k14 : (Option (Int × Int))) : Nat → Int → Option (Int × Int)
  | 0, _ => none
  | n16 + 1, v15 => (if (decide (v15 < (v1.fWashes.length : Int))) = true then ck (0 ≤ v15 ∧ v15 < (v1.fWashes.length : Int)) ((if (((gt v1.fWashes v15).fFrom == v2) && ((gt v1.fWashes v15).fTo == v3)) = true then (some ((gt v1.fWashes v15).fMinutes, 0)) else ((ref09_Clean_L16 φ v1 v2 v3 k14 n16) (W (v15 + 1))))) else k14)
def ref09_Clean (φ : Nat) (v1 : Fleet) (v2 : Int) (v3 : Int) : Option (Int × Int) := (ref09_Check φ v1).bind fun y5 => ((if (y5 != 0) = true then (some (0, y5)) else (ref09_within φ v2 0 63).bind fun y7 => ((gcall ((!y7) = false) (ref09_within φ v3 0 63)).bind fun y10 => ((if ((!y7) || (!y10)) = true then (some (0, 1)) else (ref09_Clean_L16 φ v1 v2 v3 (ref09_Clean_j14 φ) φ 0))))))
def fleet_Worth (φ : Nat) (v1 : Fleet) (v2 : Int) (v3 : Int) : Option (Int × Int) := (fleet_wagonOf φ v1 v2).bind fun y5 => ((if (y5.2.2 != 0) = true then (some (0, y5.2.2)) else (fleet_between φ v3 0 1073741824).bind fun y9 => ((if (!y9) = true then (some (0, 1)) else (money_Worth φ y5.1.fWorth y5.1.fBuilt v3 y5.2.1.fLife y5.2.1.fFloor).bind fun y11 => ((some (y11.1, y11.2)))))))
def ref09_Worth (φ : Nat) (v1 : Fleet) (v2 : Int) (v3 : Int) : Option (Int × Int) := (ref09_Check φ v1).bind fun y5 => ((if (y5 != 0) = true then (some (0, y5)) else (ref09_within φ v2 0 (W ((v1.fWagons.length : Int) - 1))).bind fun y7 => ((if (!y7) = true then (some (0, 90)) else (ref09_within φ v3 0 1073741824).bind fun y9 => ((if (!y9) = true then (some (0, 1)) else ck (0 ≤ v2 ∧ v2 < (v1.fWagons.length : Int)) (ck (0 ≤ (gt v1.fWagons v2).fType ∧ (gt v1.fWagons v2).fType < (v1.fTypes.length : Int)) ((ref07_Worth φ ((gt v1.fWagons v2).fWorth) ((gt v1.fWagons v2).fBuilt) v3 ((gt v1.fTypes ((gt v1.fWagons v2).fType)).fLife) ((gt v1.fTypes ((gt v1.fWagons v2).fType)).fFloor)).bind fun y14 => ((some (y14.1, y14.2)))))))))))
def ref09_SameSwaps_j4 (φ : Nat) : Option (Bool) := (some true)
def ref09_SameSwaps_L6 (φ : Nat) (v1 : (List Swap)) (v2 : (List Swap)) (k4 : (Option (Bool))) : Nat → Int → Option (Bool)
  | 0, _ => none
  | n6 + 1, v5 => (if (decide (v5 < (v1.length : Int))) = true then ck (0 ≤ v5 ∧ v5 < (v1.length : Int)) (ck (0 ≤ v5 ∧ v5 < (v2.length : Int)) ((if (!(eqSwapB (gt v1 v5) (gt v2 v5))) = true then (some false) else ((ref09_SameSwaps_L6 φ v1 v2 k4 n6) (W (v5 + 1)))))) else k4)
def ref09_SameSwaps (φ : Nat) (v1 : (List Swap)) (v2 : (List Swap)) : Option (Bool) := (if ((v1.length : Int) != (v2.length : Int)) = true then (some false) else (ref09_SameSwaps_L6 φ v1 v2 (ref09_SameSwaps_j4 φ) φ 0))
def fleet_CheckPool_j29 (φ : Nat) (v28 : Bool) : Option (Int) := (if v28 = true then (some 1) else (some 0))
def fleet_CheckPool_L33 (φ : Nat) (v1 : Pool) (k29 : (Bool → Option (Int))) : Nat → Bool → Int → Option (Int)
  | 0, _, _ => none
  | n33 + 1, v31, v32 => (if (decide (v32 < (v1.fRailways.length : Int))) = true then ck (0 ≤ v32 ∧ v32 < (v1.fRailways.length : Int)) ((gcall (v31 = false) (calendar_Check φ ((gt v1.fRailways v32).fCalendar))).bind fun y40 => ((gcall ((v31 || (y40 != 0)) = false) (sign_Valid φ ((gt v1.fRailways v32).fKey))).bind fun y46 => (((fleet_CheckPool_L33 φ v1 k29 n33) ((v31 || (y40 != 0)) || (!y46)) (W (v32 + 1)))))) else (k29 v31))
def fleet_CheckPool_j27 (φ : Nat) (v1 : Pool) (v26 : Bool) : Option (Int) := (fleet_CheckPool_L33 φ v1 (fleet_CheckPool_j29 φ) φ v26 0)
def fleet_CheckPool_L51 (φ : Nat) (v1 : Pool) (k27 : (Bool → Option (Int))) : Nat → Bool → Int → Option (Int)
  | 0, _, _ => none
  | n51 + 1, v49, v50 => (if (decide (v50 < (v1.fNetwork.fEdges.length : Int))) = true then ck (0 ≤ v50 ∧ v50 < (v1.fNetwork.fEdges.length : Int)) (((fleet_CheckPool_L51 φ v1 k27 n51) (v49 || decide ((v1.fRailways.length : Int) ≤ (gt v1.fNetwork.fEdges v50).fRailway)) (W (v50 + 1)))) else (k27 v49))
def fleet_CheckPool_j25 (φ : Nat) (v1 : Pool) (v24 : Bool) : Option (Int) := (fleet_CheckPool_L51 φ v1 (fleet_CheckPool_j27 φ v1) φ v24 0)
def fleet_CheckPool_L62 (φ : Nat) (v1 : Pool) (k25 : (Bool → Option (Int))) : Nat → Bool → Int → Option (Int)
  | 0, _, _ => none
  | n62 + 1, v60, v61 => (if (decide (v61 < (v1.fNetwork.fPlaces.length : Int))) = true then ck (0 ≤ v61 ∧ v61 < (v1.fNetwork.fPlaces.length : Int)) (((fleet_CheckPool_L62 φ v1 k25 n62) ((v60 || decide ((v1.fRailways.length : Int) ≤ (gt v1.fNetwork.fPlaces v61).fRailway)) || decide ((v1.fRailways.length : Int) ≤ (gt v1.fNetwork.fPlaces v61).fOther)) (W (v61 + 1)))) else (k25 v60))
def fleet_CheckPool_j23 (φ : Nat) (v1 : Pool) (v22 : Bool) : Option (Int) := (fleet_CheckPool_L62 φ v1 (fleet_CheckPool_j25 φ v1) φ v22 0)
def fleet_CheckPool_L78 (φ : Nat) (v1 : Pool) (k23 : (Bool → Option (Int))) : Nat → Bool → Int → Option (Int)
  | 0, _, _ => none
  | n78 + 1, v76, v77 => (if (decide (v77 < (v1.fFleet.fWagons.length : Int))) = true then ck (0 ≤ v77 ∧ v77 < (v1.fFleet.fWagons.length : Int)) (((fleet_CheckPool_L78 φ v1 k23 n78) (v76 || decide ((v1.fNetwork.fPlaces.length : Int) ≤ (gt v1.fFleet.fWagons v77).fHome)) (W (v77 + 1)))) else (k23 v76))
def fleet_CheckPool_j21 (φ : Nat) (v1 : Pool) (v20 : Bool) : Option (Int) := (fleet_CheckPool_L78 φ v1 (fleet_CheckPool_j23 φ v1) φ v20 0)
def fleet_CheckPool_L90 (φ : Nat) (v1 : Pool) (k21 : (Bool → Option (Int))) : Nat → Bool → Int → Option (Int)
  | 0, _, _ => none
  | n90 + 1, v88, v89 => (if (decide (v89 < (v1.fShippers.length : Int))) = true then ck (0 ≤ v89 ∧ v89 < (v1.fShippers.length : Int)) ((gcall (v88 = false) (fleet_between φ ((gt v1.fShippers v89).fPlace) 0 (W ((v1.fNetwork.fPlaces.length : Int) - 1)))).bind fun y100 => (ck (((v88 || (!y100)) = false) → (0 ≤ (gt v1.fShippers v89).fPlace ∧ (gt v1.fShippers v89).fPlace < (v1.fNetwork.fPlaces.length : Int))) (((fleet_CheckPool_L90 φ v1 k21 n90) ((v88 || (!y100)) || ((gt v1.fNetwork.fPlaces ((gt v1.fShippers v89).fPlace)).fKind != 4)) (W (v89 + 1)))))) else (k21 v88))
def fleet_CheckPool_j19 (φ : Nat) (v1 : Pool) (v18 : Bool) : Option (Int) := (fleet_CheckPool_L90 φ v1 (fleet_CheckPool_j21 φ v1) φ v18 0)
def fleet_CheckPool_L114 (φ : Nat) (v1 : Pool) (k19 : (Bool → Option (Int))) : Nat → Bool → Int → Option (Int)
  | 0, _, _ => none
  | n114 + 1, v112, v113 => (if (decide (v113 < (v1.fReaders.length : Int))) = true then ck (0 ≤ v113 ∧ v113 < (v1.fReaders.length : Int)) ((gcall (v112 = false) (fleet_between φ ((gt v1.fReaders v113).fPlace) 0 (W ((v1.fNetwork.fPlaces.length : Int) - 1)))).bind fun y124 => (((fleet_CheckPool_L114 φ v1 k19 n114) ((((v112 || (!y124)) || decide ((gt v1.fReaders v113).fLow < (-1000))) || decide ((gt v1.fReaders v113).fHigh < (gt v1.fReaders v113).fLow)) || decide (1000 < (gt v1.fReaders v113).fHigh)) (W (v113 + 1))))) else (k19 v112))
def fleet_CheckPool (φ : Nat) (v1 : Pool) : Option (Int) := (network_Check φ v1.fNetwork).bind fun y3 => ((if (y3 != 0) = true then (some y3) else (fleet_Check φ v1.fFleet).bind fun y5 => ((if (y5 != 0) = true then (some y5) else (if ((decide (256 < (v1.fReaders.length : Int)) || decide (256 < (v1.fShippers.length : Int))) || decide (16 < (v1.fRailways.length : Int))) = true then (some 2) else (fleet_CheckPool_L114 φ v1 (fleet_CheckPool_j19 φ v1) φ ((v1.fRailways.length : Int) == 0) 0))))))
def ref09_ends_j5 (φ : Nat) : Option (Bool) := (some true)
def ref09_ends_L7 (φ : Nat) (v1 : Pool) (k5 : (Option (Bool))) : Nat → Int → Option (Bool)
  | 0, _ => none
  | n7 + 1, v6 => (if (decide (v6 < (v1.fFleet.fWagons.length : Int))) = true then ck (0 ≤ v6 ∧ v6 < (v1.fFleet.fWagons.length : Int)) ((if (decide ((v1.fNetwork.fPlaces.length : Int) ≤ (gt v1.fFleet.fWagons v6).fHome)) = true then (some false) else ((ref09_ends_L7 φ v1 k5 n7) (W (v6 + 1))))) else k5)
def ref09_ends_j4 (φ : Nat) (v1 : Pool) : Option (Bool) := (ref09_ends_L7 φ v1 (ref09_ends_j5 φ) φ 0)
def ref09_ends_L12 (φ : Nat) (v1 : Pool) (k4 : (Option (Bool))) : Nat → Int → Option (Bool)
  | 0, _ => none
  | n12 + 1, v11 => (if (decide (v11 < (v1.fShippers.length : Int))) = true then ck (0 ≤ v11 ∧ v11 < (v1.fShippers.length : Int)) ((ref09_within φ ((gt v1.fShippers v11).fPlace) 0 (W ((v1.fNetwork.fPlaces.length : Int) - 1))).bind fun y15 => (ck (((!y15) = false) → (0 ≤ (gt v1.fShippers v11).fPlace ∧ (gt v1.fShippers v11).fPlace < (v1.fNetwork.fPlaces.length : Int))) ((if ((!y15) || ((gt v1.fNetwork.fPlaces ((gt v1.fShippers v11).fPlace)).fKind != 4)) = true then (some false) else ((ref09_ends_L12 φ v1 k4 n12) (W (v11 + 1))))))) else k4)
def ref09_ends_j3 (φ : Nat) (v1 : Pool) : Option (Bool) := (ref09_ends_L12 φ v1 (ref09_ends_j4 φ v1) φ 0)
def ref09_ends_L33 (φ : Nat) (v1 : Pool) (k3 : (Option (Bool))) : Nat → Int → Option (Bool)
  | 0, _ => none
  | n33 + 1, v32 => (if (decide (v32 < (v1.fReaders.length : Int))) = true then ck (0 ≤ v32 ∧ v32 < (v1.fReaders.length : Int)) ((ref09_within φ ((gt v1.fReaders v32).fPlace) 0 (W ((v1.fNetwork.fPlaces.length : Int) - 1))).bind fun y37 => ((if ((((!y37) || decide ((gt v1.fReaders v32).fLow < (-1000))) || decide ((gt v1.fReaders v32).fHigh < (gt v1.fReaders v32).fLow)) || decide (1000 < (gt v1.fReaders v32).fHigh)) = true then (some false) else ((ref09_ends_L33 φ v1 k3 n33) (W (v32 + 1)))))) else k3)
def ref09_ends (φ : Nat) (v1 : Pool) : Option (Bool) := (ref09_ends_L33 φ v1 (ref09_ends_j3 φ v1) φ 0)
def ref09_roads_j4 (φ : Nat) : Option (Bool) := (some true)
def ref09_roads_L6 (φ : Nat) (v1 : Pool) (k4 : (Option (Bool))) : Nat → Int → Option (Bool)
  | 0, _ => none
  | n6 + 1, v5 => (if (decide (v5 < (v1.fNetwork.fEdges.length : Int))) = true then ck (0 ≤ v5 ∧ v5 < (v1.fNetwork.fEdges.length : Int)) ((if (decide ((v1.fRailways.length : Int) ≤ (gt v1.fNetwork.fEdges v5).fRailway)) = true then (some false) else ((ref09_roads_L6 φ v1 k4 n6) (W (v5 + 1))))) else k4)
def ref09_roads_j3 (φ : Nat) (v1 : Pool) : Option (Bool) := (ref09_roads_L6 φ v1 (ref09_roads_j4 φ) φ 0)
def ref09_roads_L11 (φ : Nat) (v1 : Pool) (k3 : (Option (Bool))) : Nat → Int → Option (Bool)
  | 0, _ => none
  | n11 + 1, v10 => (if (decide (v10 < (v1.fNetwork.fPlaces.length : Int))) = true then ck (0 ≤ v10 ∧ v10 < (v1.fNetwork.fPlaces.length : Int)) ((if (decide ((v1.fRailways.length : Int) ≤ (gt v1.fNetwork.fPlaces v10).fRailway) || decide ((v1.fRailways.length : Int) ≤ (gt v1.fNetwork.fPlaces v10).fOther)) = true then (some false) else ((ref09_roads_L11 φ v1 k3 n11) (W (v10 + 1))))) else k3)
def ref09_roads (φ : Nat) (v1 : Pool) : Option (Bool) := (ref09_roads_L11 φ v1 (ref09_roads_j3 φ v1) φ 0)
def ref09_CheckPool_j25 (φ : Nat) (v1 : Pool) : Option (Int) := (if ((v1.fRailways.length : Int) == 0) = true then (some 1) else (some 0))
def ref09_CheckPool_L28 (φ : Nat) (v1 : Pool) (k25 : (Option (Int))) : Nat → Int → Option (Int)
  | 0, _ => none
  | n28 + 1, v27 => (if (decide (v27 < (v1.fRailways.length : Int))) = true then ck (0 ≤ v27 ∧ v27 < (v1.fRailways.length : Int)) ((ref06_Check φ ((gt v1.fRailways v27).fCalendar)).bind fun y31 => ((gcall ((y31 != 0) = false) (ref03_Valid φ ((gt v1.fRailways v27).fKey))).bind fun y39 => ((if ((y31 != 0) || (!y39)) = true then (some 1) else ((ref09_CheckPool_L28 φ v1 k25 n28) (W (v27 + 1))))))) else k25)
def ref09_CheckPool (φ : Nat) (v1 : Pool) : Option (Int) := (ref08_Check φ v1.fNetwork).bind fun y3 => ((if (y3 != 0) = true then (some y3) else (ref09_Check φ v1.fFleet).bind fun y5 => ((if (y5 != 0) = true then (some y5) else (if ((decide (256 < (v1.fReaders.length : Int)) || decide (256 < (v1.fShippers.length : Int))) || decide (16 < (v1.fRailways.length : Int))) = true then (some 2) else (ref09_ends φ (Pool.mk v1.fNetwork v1.fFleet v1.fReaders v1.fShippers v1.fRailways)).bind fun y18 => ((gcall ((!y18) = false) (ref09_roads φ (Pool.mk v1.fNetwork v1.fFleet v1.fReaders v1.fShippers v1.fRailways))).bind fun y21 => ((if ((!y18) || (!y21)) = true then (some 1) else (ref09_CheckPool_L28 φ v1 (ref09_CheckPool_j25 φ v1) φ 0)))))))))
def law09_few (φ : Nat) (v1 : Fleet) : Option (Bool) := (if (((decide (32 < (v1.fTypes.length : Int)) || decide (4096 < (v1.fWagons.length : Int))) || decide (1024 < (v1.fSwaps.length : Int))) || decide (4096 < (v1.fWashes.length : Int))) = true then (some true) else (some ((decide ((v1.fWagons.length : Int) ≤ 64) && decide ((v1.fSwaps.length : Int) ≤ 200)) && decide ((v1.fWashes.length : Int) ≤ 200))))
def law09_example (φ : Nat)  : Option (Fleet) := (some (Fleet.mk [(WagonType.mk 60000 0 0 0 0 6 100 20), (WagonType.mk 50000 0 0 0 0 0 1 0), (WagonType.mk 40000 0 0 0 0 0 1 0)] [(Wagon.mk 0 0 0 0 1000000)] [(Swap.mk 0 1 5), (Swap.mk 1 2 7), (Swap.mk 0 2 20)] [(Wash.mk 1 2 90)]))
def law09_sane (φ : Nat)  : Option (Bool) := (law09_example φ).bind fun y1 => ((fleet_Given φ y1 0).bind fun y6 => ((fleet_Given φ y1 3).bind fun y11 => ((fleet_Clean φ y1 1 2).bind fun y16 => ((fleet_Clean φ y1 1 64).bind fun y17 => ((fleet_Worth φ y1 0 50).bind fun y18 => ((fleet_Worth φ y1 0 1000).bind fun y19 => ((gcall ((y6.2 == 0) = true) (ref09_SameSwaps φ y6.1 [(Swap.mk 0 0 0), (Swap.mk 0 1 5), (Swap.mk 0 2 12)])).bind fun y27 => ((gcall (((((((((((y6.2 == 0) && y27) && (y11.2 == 90)) && (y16.2 == 0)) && (y16.1 == 90)) && (y17.2 == 1)) && (y18.2 == 0)) && (y18.1 == 500000)) && (y19.2 == 0)) && (y19.1 == 200000)) = true) (fleet_Fits φ y1 0 1 60000)).bind fun y55 => ((gcall ((((((((((((y6.2 == 0) && y27) && (y11.2 == 90)) && (y16.2 == 0)) && (y16.1 == 90)) && (y17.2 == 1)) && (y18.2 == 0)) && (y18.1 == 500000)) && (y19.2 == 0)) && (y19.1 == 200000)) && (y55 == 0)) = true) (fleet_Fits φ y1 0 1 60001)).bind fun y60 => ((gcall (((((((((((((y6.2 == 0) && y27) && (y11.2 == 90)) && (y16.2 == 0)) && (y16.1 == 90)) && (y17.2 == 1)) && (y18.2 == 0)) && (y18.1 == 500000)) && (y19.2 == 0)) && (y19.1 == 200000)) && (y55 == 0)) && (y60 == 91)) = true) (fleet_Fits φ y1 1 1 1)).bind fun y65 => ((some (((((((((((((y6.2 == 0) && y27) && (y11.2 == 90)) && (y16.2 == 0)) && (y16.1 == 90)) && (y17.2 == 1)) && (y18.2 == 0)) && (y18.1 == 500000)) && (y19.2 == 0)) && (y19.1 == 200000)) && (y55 == 0)) && (y60 == 91)) && (y65 == 90))))))))))))))
def law09_FleetMatches (φ : Nat) (v1 : Fleet) (v2 : law09_Question) : Option (Bool) := (law09_sane φ).bind fun y5 => ((if (!y5) = true then (some false) else (law09_few φ v1).bind fun y7 => ((if (!y7) = true then (some true) else (fleet_Given φ v1 v2.fWanted).bind fun y9 => ((ref09_Given φ v1 v2.fWanted).bind fun y14 => ((fleet_Clean φ v1 v2.fClass v2.fTo).bind fun y19 => ((ref09_Clean φ v1 v2.fClass v2.fTo).bind fun y20 => ((fleet_Worth φ v1 v2.fWagon v2.fAt).bind fun y21 => ((ref09_Worth φ v1 v2.fWagon v2.fAt).bind fun y22 => ((fleet_Check φ v1).bind fun y23 => ((ref09_Check φ v1).bind fun y24 => ((gcall ((y23 == y24) = true) (fleet_Fits φ v1 v2.fWagon v2.fClass v2.fWeight)).bind fun y33 => ((gcall ((y23 == y24) = true) (ref09_Fits φ v1 v2.fWagon v2.fClass v2.fWeight)).bind fun y42 => ((gcall (((y23 == y24) && (y33 == y42)) = true) (ref09_SameSwaps φ y9.1 y14.1)).bind fun y48 => ((some ((((((((y23 == y24) && (y33 == y42)) && y48) && (y9.2 == y14.2)) && (y19.1 == y20.1)) && (y19.2 == y20.2)) && (y21.1 == y22.1)) && (y21.2 == y22.2))))))))))))))))))
def law09_FleetCheapest_j39 (φ : Nat) : Option (Bool) := (some true)
def law09_FleetCheapest_L41 (φ : Nat) (v18 : (List Int)) (v36 : Bool) (v37 : (List Bool)) (k39 : (Option (Bool))) : Nat → Int → Option (Bool)
  | 0, _ => none
  | n41 + 1, v40 => (if (decide (v40 < (v18.length : Int))) = true then ck ((v36 = true) → (0 ≤ v40 ∧ v40 < (v37.length : Int))) (ck ((v36 = true) → (0 ≤ v40 ∧ v40 < (v18.length : Int))) ((if (v36 && ((gt v37 v40) != decide (0 ≤ (gt v18 v40)))) = true then (some false) else ((law09_FleetCheapest_L41 φ v18 v36 v37 k39 n41) (W (v40 + 1)))))) else k39)
def law09_FleetCheapest_j38 (φ : Nat) (v18 : (List Int)) (v36 : Bool) (v37 : (List Bool)) : Option (Bool) := (law09_FleetCheapest_L41 φ v18 v36 v37 (law09_FleetCheapest_j39 φ) φ 0)
def law09_FleetCheapest_j64 (φ : Nat) (v58 : Int) (k60 : (Bool → Int → (List Bool) → Option (Bool))) (v62 : Bool) (v63 : (List Bool)) : Option (Bool) := (k60 v62 (W (v58 + 1)) v63)
def law09_FleetCheapest_L60 (φ : Nat) (v1 : Fleet) (v18 : (List Int)) (k38 : (Bool → (List Bool) → Option (Bool))) : Nat → Bool → Int → (List Bool) → Option (Bool)
  | 0, _, _, _ => none
  | n60 + 1, v57, v58, v59 => (if (decide (v58 < (v1.fSwaps.length : Int))) = true then ck (0 ≤ v58 ∧ v58 < (v1.fSwaps.length : Int)) ((if (((decide ((gt v1.fSwaps v58).fWanted < 0) || decide ((v18.length : Int) ≤ (gt v1.fSwaps v58).fWanted)) || decide ((gt v1.fSwaps v58).fGiven < 0)) || decide ((v18.length : Int) ≤ (gt v1.fSwaps v58).fGiven)) = true then (some false) else ck (0 ≤ (gt v1.fSwaps v58).fWanted ∧ (gt v1.fSwaps v58).fWanted < (v18.length : Int)) ((if (decide ((gt v18 ((gt v1.fSwaps v58).fWanted)) < 0)) = true then ((law09_FleetCheapest_j64 φ v58 (law09_FleetCheapest_L60 φ v1 v18 k38 n60)) v57 v59) else ck (0 ≤ (gt v1.fSwaps v58).fGiven ∧ (gt v1.fSwaps v58).fGiven < (v18.length : Int)) ((if (decide ((gt v18 ((gt v1.fSwaps v58).fGiven)) < 0) || decide ((W ((gt v18 ((gt v1.fSwaps v58).fWanted)) + ((gt v1.fSwaps v58).fCost))) < (gt v18 ((gt v1.fSwaps v58).fGiven)))) = true then (some false) else ck (0 ≤ (gt v1.fSwaps v58).fGiven ∧ (gt v1.fSwaps v58).fGiven < (v59.length : Int)) (((law09_FleetCheapest_j64 φ v58 (law09_FleetCheapest_L60 φ v1 v18 k38 n60)) (v57 && decide (0 < (gt v1.fSwaps v58).fCost)) (setAt v59 ((gt v1.fSwaps v58).fGiven) ((gt v59 ((gt v1.fSwaps v58).fGiven)) || ((gt v18 ((gt v1.fSwaps v58).fGiven)) == (W ((gt v18 ((gt v1.fSwaps v58).fWanted)) + ((gt v1.fSwaps v58).fCost)))))))))))))) else (k38 v57 v59))
def law09_FleetCheapest_j19 (φ : Nat) (v1 : Fleet) (v2 : Int) (v18 : (List Int)) : Option (Bool) := ck (((decide (v2 < 0) || decide ((v18.length : Int) ≤ v2)) = false) → (0 ≤ v2 ∧ v2 < (v18.length : Int))) ((if ((decide (v2 < 0) || decide ((v18.length : Int) ≤ v2)) || ((gt v18 v2) != 0)) = true then (some false) else ck (makes (v18.length : Int) 1) (ck (0 ≤ v2 ∧ v2 < ((List.replicate ((v18.length : Int) : Int).toNat false).length : Int)) ((law09_FleetCheapest_L60 φ v1 v18 (law09_FleetCheapest_j38 φ v18) φ true 0 (setAt (List.replicate ((v18.length : Int) : Int).toNat false) v2 true))))))
def law09_FleetCheapest_L113 (φ : Nat) (v2 : Int) (y8 : ((List Swap) × Int)) (k19 : ((List Int) → Option (Bool))) : Nat → Int → Int → (List Int) → Option (Bool)
  | 0, _, _, _ => none
  | n113 + 1, v110, v111, v112 => (if (decide (v111 < (y8.1.length : Int))) = true then ck (0 ≤ v111 ∧ v111 < (y8.1.length : Int)) ((if (((((gt y8.1 v111).fWanted != v2) || decide ((gt y8.1 v111).fGiven ≤ v110)) || decide ((v112.length : Int) ≤ (gt y8.1 v111).fGiven)) || decide ((gt y8.1 v111).fCost < 0)) = true then (some false) else ck (0 ≤ (gt y8.1 v111).fGiven ∧ (gt y8.1 v111).fGiven < (v112.length : Int)) (((law09_FleetCheapest_L113 φ v2 y8 k19 n113) ((gt y8.1 v111).fGiven) (W (v111 + 1)) (setAt v112 ((gt y8.1 v111).fGiven) ((gt y8.1 v111).fCost)))))) else (k19 v112))
def law09_FleetCheapest_j17 (φ : Nat) (v1 : Fleet) (v2 : Int) (y8 : ((List Swap) × Int)) (v16 : (List Int)) : Option (Bool) := (law09_FleetCheapest_L113 φ v2 y8 (law09_FleetCheapest_j19 φ v1 v2) φ (-1) 0 v16)
def law09_FleetCheapest_L144 (φ : Nat) (k17 : ((List Int) → Option (Bool))) : Nat → Int → (List Int) → Option (Bool)
  | 0, _, _ => none
  | n144 + 1, v142, v143 => (if (decide (v142 < (v143.length : Int))) = true then ck (0 ≤ v142 ∧ v142 < (v143.length : Int)) (((law09_FleetCheapest_L144 φ k17 n144) (W (v142 + 1)) (setAt v143 v142 (-1)))) else (k17 v143))
def law09_FleetCheapest (φ : Nat) (v1 : Fleet) (v2 : Int) : Option (Bool) := (law09_sane φ).bind fun y4 => ((if (!y4) = true then (some false) else (law09_few φ v1).bind fun y6 => ((if (!y6) = true then (some true) else (fleet_Given φ v1 v2).bind fun y8 => ((if (y8.2 != 0) = true then (some ((y8.1.length : Int) == 0)) else ck (makes (v1.fTypes.length : Int) 8) ((law09_FleetCheapest_L144 φ (law09_FleetCheapest_j17 φ v1 v2 y8) φ 0 (List.replicate ((v1.fTypes.length : Int) : Int).toNat 0)))))))))
def law09_FleetTransitive_j18 (φ : Nat) : Option (Bool) := (some true)
def law09_FleetTransitive_j22 (φ : Nat) (v19 : Int) (k20 : (Int → Option (Bool))) : Option (Bool) := (k20 (W (v19 + 1)))
def law09_FleetTransitive_j38 (φ : Nat) (v35 : Int) (k36 : (Int → Option (Bool))) : Option (Bool) := (k36 (W (v35 + 1)))
def law09_FleetTransitive_j40 (φ : Nat) (k38 : (Option (Bool))) (v39 : Bool) : Option (Bool) := (if (!v39) = true then (some false) else k38)
def law09_FleetTransitive_L44 (φ : Nat) (y8 : ((List Swap) × Int)) (v19 : Int) (y25 : ((List Swap) × Int)) (v35 : Int) (k40 : (Bool → Option (Bool))) : Nat → Bool → Int → Option (Bool)
  | 0, _, _ => none
  | n44 + 1, v42, v43 => (if (decide (v43 < (y8.1.length : Int))) = true then ck ((v42 = false) → (0 ≤ v43 ∧ v43 < (y8.1.length : Int))) (ck ((v42 = false) → (0 ≤ v35 ∧ v35 < (y25.1.length : Int))) (ck (((v42 = false) ∧ (((gt y8.1 v43).fGiven == (gt y25.1 v35).fGiven) = true)) → (0 ≤ v43 ∧ v43 < (y8.1.length : Int))) (ck (((v42 = false) ∧ (((gt y8.1 v43).fGiven == (gt y25.1 v35).fGiven) = true)) → (0 ≤ v19 ∧ v19 < (y8.1.length : Int))) (ck (((v42 = false) ∧ (((gt y8.1 v43).fGiven == (gt y25.1 v35).fGiven) = true)) → (0 ≤ v35 ∧ v35 < (y25.1.length : Int))) (((law09_FleetTransitive_L44 φ y8 v19 y25 v35 k40 n44) (v42 || (((gt y8.1 v43).fGiven == (gt y25.1 v35).fGiven) && decide ((gt y8.1 v43).fCost ≤ (W (((gt y8.1 v19).fCost) + ((gt y25.1 v35).fCost)))))) (W (v43 + 1)))))))) else (k40 v42))
def law09_FleetTransitive_L36 (φ : Nat) (y8 : ((List Swap) × Int)) (v19 : Int) (k22 : (Option (Bool))) (y25 : ((List Swap) × Int)) : Nat → Int → Option (Bool)
  | 0, _ => none
  | n36 + 1, v35 => (if (decide (v35 < (y25.1.length : Int))) = true then (law09_FleetTransitive_L44 φ y8 v19 y25 v35 (law09_FleetTransitive_j40 φ (law09_FleetTransitive_j38 φ v35 (law09_FleetTransitive_L36 φ y8 v19 k22 y25 n36))) φ false 0) else k22)
def law09_FleetTransitive_L20 (φ : Nat) (v1 : Fleet) (y8 : ((List Swap) × Int)) (k18 : (Option (Bool))) : Nat → Int → Option (Bool)
  | 0, _ => none
  | n20 + 1, v19 => (if (decide (v19 < (y8.1.length : Int))) = true then ck (0 ≤ v19 ∧ v19 < (y8.1.length : Int)) ((fleet_Given φ v1 ((gt y8.1 v19).fGiven)).bind fun y25 => ((if ((y25.2 != 0) || decide (32 < (y25.1.length : Int))) = true then (some false) else (law09_FleetTransitive_L36 φ y8 v19 (law09_FleetTransitive_j22 φ v19 (law09_FleetTransitive_L20 φ v1 y8 k18 n20)) y25 φ 0)))) else k18)
def law09_FleetTransitive (φ : Nat) (v1 : Fleet) (v2 : Int) : Option (Bool) := (law09_sane φ).bind fun y4 => ((if (!y4) = true then (some false) else (law09_few φ v1).bind fun y6 => ((if (!y6) = true then (some true) else (fleet_Given φ v1 v2).bind fun y8 => ((if ((y8.2 != 0) || decide (32 < (y8.1.length : Int))) = true then (some (y8.2 != 0)) else (law09_FleetTransitive_L20 φ v1 y8 (law09_FleetTransitive_j18 φ) φ 0)))))))
def law09_FleetWorth (φ : Nat) (v1 : Fleet) (v2 : Int) (v3 : Int) (v4 : Int) : Option (Bool) := (law09_sane φ).bind fun y6 => ((if (!y6) = true then (some false) else (law09_few φ v1).bind fun y8 => ((if ((((!y8) || decide (v4 < v3)) || decide (v2 < 0)) || decide ((v1.fWagons.length : Int) ≤ v2)) = true then (some true) else (fleet_Worth φ v1 v2 v3).bind fun y23 => ((fleet_Worth φ v1 v2 v4).bind fun y24 => ((if ((y23.2 != 0) || (y24.2 != 0)) = true then (some (((y23.2 != 0) && (y23.1 == 0)) || ((y24.2 != 0) && (y24.1 == 0)))) else ck (0 ≤ v2 ∧ v2 < (v1.fWagons.length : Int)) ((if (decide ((gt v1.fWagons v2).fType < 0) || decide ((v1.fTypes.length : Int) ≤ (gt v1.fWagons v2).fType)) = true then (some false) else ck (0 ≤ (gt v1.fWagons v2).fType ∧ (gt v1.fWagons v2).fType < (v1.fTypes.length : Int)) ((if (((decide (y23.1 < y24.1) || decide (y24.1 < (W ((W ((W (((gt v1.fWagons v2).fWorth) * ((gt v1.fTypes ((gt v1.fWagons v2).fType)).fFloor))) + 99)).tdiv 100)))) || decide ((gt v1.fWagons v2).fWorth < y23.1)) || (decide (v3 ≤ (gt v1.fWagons v2).fBuilt) && (y23.1 != (gt v1.fWagons v2).fWorth))) = true then (some false) else (some (decide ((W (v4 - ((gt v1.fWagons v2).fBuilt))) < (gt v1.fTypes ((gt v1.fWagons v2).fType)).fLife) || (y24.1 == (W ((W ((W (((gt v1.fWagons v2).fWorth) * ((gt v1.fTypes ((gt v1.fWagons v2).fType)).fFloor))) + 99)).tdiv 100))))))))))))))))
def law09_FleetLoads (φ : Nat) (v1 : Fleet) (v2 : Int) (v3 : Int) (v4 : Int) (v5 : Int) : Option (Bool) := (law09_sane φ).bind fun y7 => ((if (!y7) = true then (some false) else (law09_few φ v1).bind fun y9 => ((gcall ((!y9) = false) (fleet_Fits φ v1 v2 v3 v4)).bind fun y15 => ((if ((!y9) || (y15 != 0)) = true then (some true) else (if ((((decide (v2 < 0) || decide ((v1.fWagons.length : Int) ≤ v2)) || decide (v3 < 0)) || decide (63 < v3)) || decide (v4 < 0)) = true then (some false) else ck (0 ≤ v2 ∧ v2 < (v1.fWagons.length : Int)) (ck (((decide ((gt v1.fWagons v2).fType < 0) || decide ((v1.fTypes.length : Int) ≤ (gt v1.fWagons v2).fType)) = false) → (0 ≤ (gt v1.fWagons v2).fType ∧ (gt v1.fWagons v2).fType < (v1.fTypes.length : Int))) (ck (((decide ((gt v1.fWagons v2).fType < 0) || decide ((v1.fTypes.length : Int) ≤ (gt v1.fWagons v2).fType)) = false) → (0 ≤ v3)) (ck ((((decide ((gt v1.fWagons v2).fType < 0) || decide ((v1.fTypes.length : Int) ≤ (gt v1.fWagons v2).fType)) || ((U ((BitVec.ofInt (IntKind.bits .u64) (((gt v1.fTypes ((gt v1.fWagons v2).fType)).fClasses).fdiv (2 ^ (min (v3 : Int).toNat (IntKind.bits .u64)))) &&& BitVec.ofInt (IntKind.bits .u64) 1).toNat)) == 0)) = false) → (0 ≤ (gt v1.fWagons v2).fType ∧ (gt v1.fWagons v2).fType < (v1.fTypes.length : Int))) ((if (((decide ((gt v1.fWagons v2).fType < 0) || decide ((v1.fTypes.length : Int) ≤ (gt v1.fWagons v2).fType)) || ((U ((BitVec.ofInt (IntKind.bits .u64) (((gt v1.fTypes ((gt v1.fWagons v2).fType)).fClasses).fdiv (2 ^ (min (v3 : Int).toNat (IntKind.bits .u64)))) &&& BitVec.ofInt (IntKind.bits .u64) 1).toNat)) == 0)) || decide ((gt v1.fTypes ((gt v1.fWagons v2).fType)).fLoad < v4)) = true then (some false) else ck (fits (([] : List WagonType).length + v1.fTypes.length) 64) (ck (0 ≤ (gt v1.fWagons v2).fType ∧ (gt v1.fWagons v2).fType < ((([] : List WagonType) ++ v1.fTypes).length : Int)) (ck (0 ≤ v3) (ck ((U ((W (v4 + 1)))) ≠ 0) ((fleet_Fits φ v1 v2 v3 (W (((U (v5)).tmod (U ((W (v4 + 1)))))))).bind fun y75 => ((gcall ((y75 == 0) = true) (fleet_Fits φ v1 v2 v3 (-1))).bind fun y80 => ((gcall (((y75 == 0) && (y80 == 91)) = true) (fleet_Fits φ (Fleet.mk (setAt (([] : List WagonType) ++ v1.fTypes) ((gt v1.fWagons v2).fType) (WagonType.mk (gt (([] : List WagonType) ++ v1.fTypes) ((gt v1.fWagons v2).fType)).fLoad (gt (([] : List WagonType) ++ v1.fTypes) ((gt v1.fWagons v2).fType)).fTare (gt (([] : List WagonType) ++ v1.fTypes) ((gt v1.fWagons v2).fType)).fLength (gt (([] : List WagonType) ++ v1.fTypes) ((gt v1.fWagons v2).fType)).fGauge (gt (([] : List WagonType) ++ v1.fTypes) ((gt v1.fWagons v2).fType)).fBrake (U ((BitVec.ofInt (IntKind.bits .u64) ((gt (([] : List WagonType) ++ v1.fTypes) ((gt v1.fWagons v2).fType)).fClasses) ^^^ BitVec.ofInt (IntKind.bits .u64) (U (1 * 2 ^ (min (v3 : Int).toNat (IntKind.bits .u64))))).toNat)) (gt (([] : List WagonType) ++ v1.fTypes) ((gt v1.fWagons v2).fType)).fLife (gt (([] : List WagonType) ++ v1.fTypes) ((gt v1.fWagons v2).fType)).fFloor)) v1.fWagons v1.fSwaps v1.fWashes) v2 v3 (W (((U (v5)).tmod (U ((W (v4 + 1))))))))).bind fun y88 => ((some (((y75 == 0) && (y80 == 91)) && (y88 == 91)))))))))))))))))))))
def law09_FleetMatchesPool_j35 (φ : Nat) (v1 : Pool) : Option (Bool) := (fleet_CheckPool φ (Pool.mk v1.fNetwork v1.fFleet v1.fReaders v1.fShippers v1.fRailways)).bind fun y36 => ((ref09_CheckPool φ (Pool.mk v1.fNetwork v1.fFleet v1.fReaders v1.fShippers v1.fRailways)).bind fun y37 => ((some (y36 == y37))))
def law09_FleetMatchesPool_L39 (φ : Nat) (v1 : Pool) (k35 : (Option (Bool))) : Nat → Int → Option (Bool)
  | 0, _ => none
  | n39 + 1, v38 => (if (decide (v38 < (v1.fRailways.length : Int))) = true then ck (0 ≤ v38 ∧ v38 < (v1.fRailways.length : Int)) ((if (decide (300 < (((gt v1.fRailways v38).fCalendar.fHolidays).length : Int))) = true then (some true) else ((law09_FleetMatchesPool_L39 φ v1 k35 n39) (W (v38 + 1))))) else k35)
def law09_FleetMatchesPool (φ : Nat) (v1 : Pool) : Option (Bool) := (law09_sane φ).bind fun y3 => ((if (!y3) = true then (some false) else (law09_few φ v1.fFleet).bind fun y5 => ((if (((!y5) || (decide (64 < (v1.fNetwork.fPlaces.length : Int)) && decide ((v1.fNetwork.fPlaces.length : Int) ≤ 512))) || (decide (200 < (v1.fNetwork.fEdges.length : Int)) && decide ((v1.fNetwork.fEdges.length : Int) ≤ 2048))) = true then (some true) else (law09_FleetMatchesPool_L39 φ v1 (law09_FleetMatchesPool_j35 φ v1) φ 0)))))
def law09_FleetPoolParts_j46 (φ : Nat) : Option (Bool) := (some true)
def law09_FleetPoolParts_L48 (φ : Nat) (v1 : Pool) (k46 : (Option (Bool))) : Nat → Int → Option (Bool)
  | 0, _ => none
  | n48 + 1, v47 => (if (decide (v47 < (v1.fNetwork.fPlaces.length : Int))) = true then ck (0 ≤ v47 ∧ v47 < (v1.fNetwork.fPlaces.length : Int)) ((if ((gt v1.fNetwork.fPlaces v47).fKind != 4) = true then ck (fits (([] : List Shipper).length + v1.fShippers.length) 8) (ck (fits ((([] : List Shipper) ++ v1.fShippers).length + [(Shipper.mk v47)].length) 8) ((fleet_CheckPool φ (Pool.mk v1.fNetwork v1.fFleet v1.fReaders ((([] : List Shipper) ++ v1.fShippers) ++ [(Shipper.mk v47)]) v1.fRailways)).bind fun y60 => ((some (y60 != 0))))) else ((law09_FleetPoolParts_L48 φ v1 k46 n48) (W (v47 + 1))))) else k46)
def law09_FleetPoolParts_j38 (φ : Nat) (v1 : Pool) (v2 : Int) : Option (Bool) := (fleet_CheckPool φ (Pool.mk v1.fNetwork v1.fFleet v1.fReaders v1.fShippers (setAt (([] : List RailwayInfo) ++ v1.fRailways) (W (((U (v2)).tmod (U ((v1.fRailways.length : Int)))))) (RailwayInfo.mk (U (2305843009213690799 - ((gt (([] : List RailwayInfo) ++ v1.fRailways) (W (((U (v2)).tmod (U ((v1.fRailways.length : Int))))))).fKey))) (gt (([] : List RailwayInfo) ++ v1.fRailways) (W (((U (v2)).tmod (U ((v1.fRailways.length : Int))))))).fCalendar)))).bind fun y39 => ((gcall ((y39 != 1) = false) (fleet_CheckPool φ (Pool.mk v1.fNetwork v1.fFleet ((([] : List Reader) ++ v1.fReaders) ++ [(Reader.mk (v1.fNetwork.fPlaces.length : Int) 0 0)]) v1.fShippers v1.fRailways))).bind fun y42 => ((if ((y39 != 1) || (y42 == 0)) = true then (some false) else (law09_FleetPoolParts_L48 φ v1 (law09_FleetPoolParts_j46 φ) φ 0))))
def law09_FleetPoolParts_j27 (φ : Nat) (v1 : Pool) (v2 : Int) : Option (Bool) := ck ((U ((v1.fRailways.length : Int))) ≠ 0) (ck (fits (([] : List RailwayInfo).length + v1.fRailways.length) 144) (ck (0 ≤ (W (((U (v2)).tmod (U ((v1.fRailways.length : Int)))))) ∧ (W (((U (v2)).tmod (U ((v1.fRailways.length : Int)))))) < ((([] : List RailwayInfo) ++ v1.fRailways).length : Int)) (ck (fits (([] : List Reader).length + v1.fReaders.length) 24) (ck (fits ((([] : List Reader) ++ v1.fReaders).length + [(Reader.mk (v1.fNetwork.fPlaces.length : Int) 0 0)].length) 24) ((law09_FleetPoolParts_j38 φ v1 v2))))))
def law09_FleetPoolParts_L109 (φ : Nat) (v1 : Pool) (k27 : (Option (Bool))) : Nat → Int → Option (Bool)
  | 0, _ => none
  | n109 + 1, v108 => (if (decide (v108 < (v1.fFleet.fWagons.length : Int))) = true then ck (0 ≤ v108 ∧ v108 < (v1.fFleet.fWagons.length : Int)) ((if (decide ((gt v1.fFleet.fWagons v108).fHome < 0) || decide ((v1.fNetwork.fPlaces.length : Int) ≤ (gt v1.fFleet.fWagons v108).fHome)) = true then (some false) else ((law09_FleetPoolParts_L109 φ v1 k27 n109) (W (v108 + 1))))) else k27)
def law09_FleetPoolParts_j26 (φ : Nat) (v1 : Pool) (v2 : Int) : Option (Bool) := (law09_FleetPoolParts_L109 φ v1 (law09_FleetPoolParts_j27 φ v1 v2) φ 0)
def law09_FleetPoolParts_L127 (φ : Nat) (v1 : Pool) (k26 : (Option (Bool))) : Nat → Int → Option (Bool)
  | 0, _ => none
  | n127 + 1, v126 => (if (decide (v126 < (v1.fRailways.length : Int))) = true then ck (0 ≤ v126 ∧ v126 < (v1.fRailways.length : Int)) ((sign_Valid φ ((gt v1.fRailways v126).fKey)).bind fun y130 => ((gcall ((!y130) = false) (calendar_Check φ ((gt v1.fRailways v126).fCalendar))).bind fun y138 => ((if ((!y130) || (y138 != 0)) = true then (some false) else ((law09_FleetPoolParts_L127 φ v1 k26 n127) (W (v126 + 1))))))) else k26)
def law09_FleetPoolParts (φ : Nat) (v1 : Pool) (v2 : Int) : Option (Bool) := (law09_sane φ).bind fun y4 => ((if (!y4) = true then (some false) else (law09_few φ v1.fFleet).bind fun y6 => ((gcall ((!y6) = false) (fleet_CheckPool φ (Pool.mk v1.fNetwork v1.fFleet v1.fReaders v1.fShippers v1.fRailways))).bind fun y9 => ((if ((!y6) || (y9 != 0)) = true then (some true) else (network_Check φ v1.fNetwork).bind fun y13 => ((gcall ((y13 != 0) = false) (fleet_Check φ v1.fFleet)).bind fun y17 => ((if (((y13 != 0) || (y17 != 0)) || ((v1.fRailways.length : Int) == 0)) = true then (some false) else (law09_FleetPoolParts_L127 φ v1 (law09_FleetPoolParts_j26 φ v1 v2) φ 0)))))))))
end Px
