/-
  NARROWER THAN 'FOR EVERY INPUT', by the rows' own cells (each row's printed sentence says how): TableSounds: laid · TableMakes: laid · TableOne: laid · TableMerges: laid · TableOrder: laid · TableRolls: laid · TableGoes: laid · TableSteps: laid · QueryChecks: laid · QueryTop: laid · QueryJoins: laid · QueryParts: laid · QueryBoxes: laid · QueryEmpty: laid.
  DERIVED. THE GIVEN ROWS OF THIS SEAT. 14 by the template 'for every input the law returns true; each argument reads behind the call as it read before'; 0 by the template 'total and deterministic' (their statements: YthpacapdaembpaaDoorTotals.lean).
  GIVEN WITH THE SEED: the statements are not yours to turn. If you find one false, say at which input.
  Laid BY PROGRAM, IN A SANDBOX (cutbox-rows.mjs): the forced cells as the released guide's own fill.sh prints them over the translation a379e06e5c7a3d78… (all of the seat's roots in one cut). By AI agents, Wed Nov 11 2026. No macro, syntax, notation, axiom, sorry.
-/
import Derived.Test.YthpacapdaembpaaDoorChecked
import GoSem.Claim
import GoSem.ClaimJoined
import GoSem.ClaimMapViews
import Derived.JoinedTies
import Derived.KernelRfl
namespace Go.Proofs.YthpacapdaembpaaDoor
/- THE CELL 'sum', in the pinned program and in every row, IS THE sha256 OF THE DUMP (.gsa) THAT YthpacapdaembpaaDoorProg.lean LOADS. Nothing in Lean hashes anything: it is a label: what it is worth is what the hold of that sum in a sandbox is worth. -/
noncomputable def Tryd.pinned : Pinned := { name := "ythpacapdaembpaadoor", sum := "a379e06e5c7a3d78cec53e70cfe71d49cd3911eac3ec171b4d6a7524ccca1164", checked := Tryd.checked }
namespace Rows
def none {H : Type} : Left H := { results := [], args := [] }

/- WHAT THE LISTED PACKAGE-LEVEL VARIABLES READ AS WHEN THE CALL BEGINS. Each datum BY PROGRAM (the guide's laid-datum.mjs) off the statement by which the dump's own 'gosem.cut.vars' lays the variable. In a bare row this is a premise. The card (YthpacapdaembpaaDoorCards.lean) ties it to the program's text. -/
def laid_math_bits_deBruijn32tab {H : Type} : DataW H := .agg [.lit (.int .u8 0), .lit (.int .u8 1), .lit (.int .u8 28), .lit (.int .u8 2), .lit (.int .u8 29), .lit (.int .u8 14), .lit (.int .u8 24), .lit (.int .u8 3), .lit (.int .u8 30), .lit (.int .u8 22), .lit (.int .u8 20), .lit (.int .u8 15), .lit (.int .u8 25), .lit (.int .u8 17), .lit (.int .u8 4), .lit (.int .u8 8), .lit (.int .u8 31), .lit (.int .u8 27), .lit (.int .u8 13), .lit (.int .u8 23), .lit (.int .u8 21), .lit (.int .u8 19), .lit (.int .u8 16), .lit (.int .u8 7), .lit (.int .u8 26), .lit (.int .u8 12), .lit (.int .u8 18), .lit (.int .u8 6), .lit (.int .u8 11), .lit (.int .u8 5), .lit (.int .u8 10), .lit (.int .u8 9)]
def laid_math_bits_deBruijn64tab {H : Type} : DataW H := .agg [.lit (.int .u8 0), .lit (.int .u8 1), .lit (.int .u8 56), .lit (.int .u8 2), .lit (.int .u8 57), .lit (.int .u8 49), .lit (.int .u8 28), .lit (.int .u8 3), .lit (.int .u8 61), .lit (.int .u8 58), .lit (.int .u8 42), .lit (.int .u8 50), .lit (.int .u8 38), .lit (.int .u8 29), .lit (.int .u8 17), .lit (.int .u8 4), .lit (.int .u8 62), .lit (.int .u8 47), .lit (.int .u8 59), .lit (.int .u8 36), .lit (.int .u8 45), .lit (.int .u8 43), .lit (.int .u8 51), .lit (.int .u8 22), .lit (.int .u8 53), .lit (.int .u8 39), .lit (.int .u8 33), .lit (.int .u8 30), .lit (.int .u8 24), .lit (.int .u8 18), .lit (.int .u8 12), .lit (.int .u8 5), .lit (.int .u8 63), .lit (.int .u8 55), .lit (.int .u8 48), .lit (.int .u8 27), .lit (.int .u8 60), .lit (.int .u8 41), .lit (.int .u8 37), .lit (.int .u8 16), .lit (.int .u8 46), .lit (.int .u8 35), .lit (.int .u8 44), .lit (.int .u8 21), .lit (.int .u8 52), .lit (.int .u8 32), .lit (.int .u8 23), .lit (.int .u8 11), .lit (.int .u8 54), .lit (.int .u8 26), .lit (.int .u8 40), .lit (.int .u8 15), .lit (.int .u8 34), .lit (.int .u8 20), .lit (.int .u8 31), .lit (.int .u8 10), .lit (.int .u8 25), .lit (.int .u8 14), .lit (.int .u8 19), .lit (.int .u8 9), .lit (.int .u8 13), .lit (.int .u8 8), .lit (.int .u8 7), .lit (.int .u8 6)]
def laid_internal_strconv_uint64pow10 {H : Type} : DataW H := .agg [.lit (.int .u64 1), .lit (.int .u64 10), .lit (.int .u64 100), .lit (.int .u64 1000), .lit (.int .u64 10000), .lit (.int .u64 100000), .lit (.int .u64 1000000), .lit (.int .u64 10000000), .lit (.int .u64 100000000), .lit (.int .u64 1000000000), .lit (.int .u64 10000000000), .lit (.int .u64 100000000000), .lit (.int .u64 1000000000000), .lit (.int .u64 10000000000000), .lit (.int .u64 100000000000000), .lit (.int .u64 1000000000000000), .lit (.int .u64 10000000000000000), .lit (.int .u64 100000000000000000), .lit (.int .u64 1000000000000000000), .lit (.int .u64 10000000000000000000)]

/-- 'stratumlaw04.TableSounds': WHATEVER THE INPUT: true; the input reads as it did. -/
def tableSoundsSpec : ChangeSpec := { name := "tableSounds", fn := fun _ => fun
  | [d1, d2, d3, d4, d5] => { results := [.lit (.bool true)], args := [d1, d2, d3, d4, d5] }
  | _ => none }
def tableSoundsRow : OpenClaim := { program := "ythpacapdaembpaadoor", sum := "a379e06e5c7a3d78cec53e70cfe71d49cd3911eac3ec171b4d6a7524ccca1164", func := "stratum/stratumlaw04.TableSounds", spec := "tableSounds", unfollowed := true, recurses := true, named := ["internal/strconv.uint64pow10", "math/bits.deBruijn32tab", "math/bits.deBruijn64tab"], apart := false, laid := [("math/bits.deBruijn32tab", laid_math_bits_deBruijn32tab), ("math/bits.deBruijn64tab", laid_math_bits_deBruijn64tab), ("internal/strconv.uint64pow10", laid_internal_strconv_uint64pow10)] }
def TableSoundsSaid : Prop := tableSoundsRow.holds Tryd.pinned (OpenSpec.ofChange tableSoundsSpec)

/-- ITS FALSE NEIGHBOUR: 'it returns false'. Refute it at one input. -/
def tableSoundsWrong : ChangeSpec := { name := "tableSounds", fn := fun _ => fun
  | [d1, d2, d3, d4, d5] => { results := [.lit (.bool false)], args := [d1, d2, d3, d4, d5] }
  | _ => none }
def TableSoundsWrongFalsely : Prop := tableSoundsRow.holds Tryd.pinned (OpenSpec.ofChange tableSoundsWrong)

/-- 'stratumlaw04.TableMakes': WHATEVER THE INPUT: true; the input reads as it did. -/
def tableMakesSpec : ChangeSpec := { name := "tableMakes", fn := fun _ => fun
  | [d] => { results := [.lit (.bool true)], args := [d] }
  | _ => none }
def tableMakesRow : OpenClaim := { program := "ythpacapdaembpaadoor", sum := "a379e06e5c7a3d78cec53e70cfe71d49cd3911eac3ec171b4d6a7524ccca1164", func := "stratum/stratumlaw04.TableMakes", spec := "tableMakes", unfollowed := true, recurses := true, named := ["internal/strconv.uint64pow10", "math/bits.deBruijn32tab", "math/bits.deBruijn64tab"], apart := false, laid := [("math/bits.deBruijn32tab", laid_math_bits_deBruijn32tab), ("math/bits.deBruijn64tab", laid_math_bits_deBruijn64tab), ("internal/strconv.uint64pow10", laid_internal_strconv_uint64pow10)] }
def TableMakesSaid : Prop := tableMakesRow.holds Tryd.pinned (OpenSpec.ofChange tableMakesSpec)

/-- ITS FALSE NEIGHBOUR: 'it returns false'. Refute it at one input. -/
def tableMakesWrong : ChangeSpec := { name := "tableMakes", fn := fun _ => fun
  | [d] => { results := [.lit (.bool false)], args := [d] }
  | _ => none }
def TableMakesWrongFalsely : Prop := tableMakesRow.holds Tryd.pinned (OpenSpec.ofChange tableMakesWrong)

/-- 'stratumlaw04.TableOne': WHATEVER THE INPUT: true; the input reads as it did. -/
def tableOneSpec : ChangeSpec := { name := "tableOne", fn := fun _ => fun
  | [d1, d2] => { results := [.lit (.bool true)], args := [d1, d2] }
  | _ => none }
def tableOneRow : OpenClaim := { program := "ythpacapdaembpaadoor", sum := "a379e06e5c7a3d78cec53e70cfe71d49cd3911eac3ec171b4d6a7524ccca1164", func := "stratum/stratumlaw04.TableOne", spec := "tableOne", unfollowed := true, recurses := true, named := ["internal/strconv.uint64pow10", "math/bits.deBruijn32tab", "math/bits.deBruijn64tab"], apart := false, laid := [("math/bits.deBruijn32tab", laid_math_bits_deBruijn32tab), ("math/bits.deBruijn64tab", laid_math_bits_deBruijn64tab), ("internal/strconv.uint64pow10", laid_internal_strconv_uint64pow10)] }
def TableOneSaid : Prop := tableOneRow.holds Tryd.pinned (OpenSpec.ofChange tableOneSpec)

/-- ITS FALSE NEIGHBOUR: 'it returns false'. Refute it at one input. -/
def tableOneWrong : ChangeSpec := { name := "tableOne", fn := fun _ => fun
  | [d1, d2] => { results := [.lit (.bool false)], args := [d1, d2] }
  | _ => none }
def TableOneWrongFalsely : Prop := tableOneRow.holds Tryd.pinned (OpenSpec.ofChange tableOneWrong)

/-- 'stratumlaw04.TableMerges': WHATEVER THE INPUT: true; the input reads as it did. -/
def tableMergesSpec : ChangeSpec := { name := "tableMerges", fn := fun _ => fun
  | [d1, d2] => { results := [.lit (.bool true)], args := [d1, d2] }
  | _ => none }
def tableMergesRow : OpenClaim := { program := "ythpacapdaembpaadoor", sum := "a379e06e5c7a3d78cec53e70cfe71d49cd3911eac3ec171b4d6a7524ccca1164", func := "stratum/stratumlaw04.TableMerges", spec := "tableMerges", unfollowed := true, recurses := true, named := ["internal/strconv.uint64pow10", "math/bits.deBruijn32tab", "math/bits.deBruijn64tab"], apart := false, laid := [("math/bits.deBruijn32tab", laid_math_bits_deBruijn32tab), ("math/bits.deBruijn64tab", laid_math_bits_deBruijn64tab), ("internal/strconv.uint64pow10", laid_internal_strconv_uint64pow10)] }
def TableMergesSaid : Prop := tableMergesRow.holds Tryd.pinned (OpenSpec.ofChange tableMergesSpec)

/-- ITS FALSE NEIGHBOUR: 'it returns false'. Refute it at one input. -/
def tableMergesWrong : ChangeSpec := { name := "tableMerges", fn := fun _ => fun
  | [d1, d2] => { results := [.lit (.bool false)], args := [d1, d2] }
  | _ => none }
def TableMergesWrongFalsely : Prop := tableMergesRow.holds Tryd.pinned (OpenSpec.ofChange tableMergesWrong)

/-- 'stratumlaw04.TableOrder': WHATEVER THE INPUT: true; the input reads as it did. -/
def tableOrderSpec : ChangeSpec := { name := "tableOrder", fn := fun _ => fun
  | [d1, d2, d3, d4] => { results := [.lit (.bool true)], args := [d1, d2, d3, d4] }
  | _ => none }
def tableOrderRow : OpenClaim := { program := "ythpacapdaembpaadoor", sum := "a379e06e5c7a3d78cec53e70cfe71d49cd3911eac3ec171b4d6a7524ccca1164", func := "stratum/stratumlaw04.TableOrder", spec := "tableOrder", unfollowed := true, recurses := true, named := ["internal/strconv.uint64pow10", "math/bits.deBruijn32tab", "math/bits.deBruijn64tab"], apart := false, laid := [("math/bits.deBruijn32tab", laid_math_bits_deBruijn32tab), ("math/bits.deBruijn64tab", laid_math_bits_deBruijn64tab), ("internal/strconv.uint64pow10", laid_internal_strconv_uint64pow10)] }
def TableOrderSaid : Prop := tableOrderRow.holds Tryd.pinned (OpenSpec.ofChange tableOrderSpec)

/-- ITS FALSE NEIGHBOUR: 'it returns false'. Refute it at one input. -/
def tableOrderWrong : ChangeSpec := { name := "tableOrder", fn := fun _ => fun
  | [d1, d2, d3, d4] => { results := [.lit (.bool false)], args := [d1, d2, d3, d4] }
  | _ => none }
def TableOrderWrongFalsely : Prop := tableOrderRow.holds Tryd.pinned (OpenSpec.ofChange tableOrderWrong)

/-- 'stratumlaw04.TableRolls': WHATEVER THE INPUT: true; the input reads as it did. -/
def tableRollsSpec : ChangeSpec := { name := "tableRolls", fn := fun _ => fun
  | [d1, d2, d3, d4] => { results := [.lit (.bool true)], args := [d1, d2, d3, d4] }
  | _ => none }
def tableRollsRow : OpenClaim := { program := "ythpacapdaembpaadoor", sum := "a379e06e5c7a3d78cec53e70cfe71d49cd3911eac3ec171b4d6a7524ccca1164", func := "stratum/stratumlaw04.TableRolls", spec := "tableRolls", unfollowed := true, recurses := true, named := ["internal/strconv.uint64pow10", "math/bits.deBruijn32tab", "math/bits.deBruijn64tab"], apart := false, laid := [("math/bits.deBruijn32tab", laid_math_bits_deBruijn32tab), ("math/bits.deBruijn64tab", laid_math_bits_deBruijn64tab), ("internal/strconv.uint64pow10", laid_internal_strconv_uint64pow10)] }
def TableRollsSaid : Prop := tableRollsRow.holds Tryd.pinned (OpenSpec.ofChange tableRollsSpec)

/-- ITS FALSE NEIGHBOUR: 'it returns false'. Refute it at one input. -/
def tableRollsWrong : ChangeSpec := { name := "tableRolls", fn := fun _ => fun
  | [d1, d2, d3, d4] => { results := [.lit (.bool false)], args := [d1, d2, d3, d4] }
  | _ => none }
def TableRollsWrongFalsely : Prop := tableRollsRow.holds Tryd.pinned (OpenSpec.ofChange tableRollsWrong)

/-- 'stratumlaw04.TableGoes': WHATEVER THE INPUT: true; the input reads as it did. -/
def tableGoesSpec : ChangeSpec := { name := "tableGoes", fn := fun _ => fun
  | [d1, d2, d3, d4] => { results := [.lit (.bool true)], args := [d1, d2, d3, d4] }
  | _ => none }
def tableGoesRow : OpenClaim := { program := "ythpacapdaembpaadoor", sum := "a379e06e5c7a3d78cec53e70cfe71d49cd3911eac3ec171b4d6a7524ccca1164", func := "stratum/stratumlaw04.TableGoes", spec := "tableGoes", unfollowed := true, recurses := true, named := ["internal/strconv.uint64pow10", "math/bits.deBruijn32tab", "math/bits.deBruijn64tab"], apart := false, laid := [("math/bits.deBruijn32tab", laid_math_bits_deBruijn32tab), ("math/bits.deBruijn64tab", laid_math_bits_deBruijn64tab), ("internal/strconv.uint64pow10", laid_internal_strconv_uint64pow10)] }
def TableGoesSaid : Prop := tableGoesRow.holds Tryd.pinned (OpenSpec.ofChange tableGoesSpec)

/-- ITS FALSE NEIGHBOUR: 'it returns false'. Refute it at one input. -/
def tableGoesWrong : ChangeSpec := { name := "tableGoes", fn := fun _ => fun
  | [d1, d2, d3, d4] => { results := [.lit (.bool false)], args := [d1, d2, d3, d4] }
  | _ => none }
def TableGoesWrongFalsely : Prop := tableGoesRow.holds Tryd.pinned (OpenSpec.ofChange tableGoesWrong)

/-- 'stratumlaw04.TableSteps': WHATEVER THE INPUT: true; the input reads as it did. -/
def tableStepsSpec : ChangeSpec := { name := "tableSteps", fn := fun _ => fun
  | [d1, d2, d3, d4, d5, d6] => { results := [.lit (.bool true)], args := [d1, d2, d3, d4, d5, d6] }
  | _ => none }
def tableStepsRow : OpenClaim := { program := "ythpacapdaembpaadoor", sum := "a379e06e5c7a3d78cec53e70cfe71d49cd3911eac3ec171b4d6a7524ccca1164", func := "stratum/stratumlaw04.TableSteps", spec := "tableSteps", unfollowed := true, recurses := true, named := ["internal/strconv.uint64pow10", "math/bits.deBruijn32tab", "math/bits.deBruijn64tab"], apart := false, laid := [("math/bits.deBruijn32tab", laid_math_bits_deBruijn32tab), ("math/bits.deBruijn64tab", laid_math_bits_deBruijn64tab), ("internal/strconv.uint64pow10", laid_internal_strconv_uint64pow10)] }
def TableStepsSaid : Prop := tableStepsRow.holds Tryd.pinned (OpenSpec.ofChange tableStepsSpec)

/-- ITS FALSE NEIGHBOUR: 'it returns false'. Refute it at one input. -/
def tableStepsWrong : ChangeSpec := { name := "tableSteps", fn := fun _ => fun
  | [d1, d2, d3, d4, d5, d6] => { results := [.lit (.bool false)], args := [d1, d2, d3, d4, d5, d6] }
  | _ => none }
def TableStepsWrongFalsely : Prop := tableStepsRow.holds Tryd.pinned (OpenSpec.ofChange tableStepsWrong)

/-- 'stratumlaw06.QueryChecks': WHATEVER THE INPUT: true; the input reads as it did. -/
def queryChecksSpec : ChangeSpec := { name := "queryChecks", fn := fun _ => fun
  | [d1, d2, d3] => { results := [.lit (.bool true)], args := [d1, d2, d3] }
  | _ => none }
def queryChecksRow : OpenClaim := { program := "ythpacapdaembpaadoor", sum := "a379e06e5c7a3d78cec53e70cfe71d49cd3911eac3ec171b4d6a7524ccca1164", func := "stratum/stratumlaw06.QueryChecks", spec := "queryChecks", unfollowed := true, recurses := true, named := ["internal/strconv.uint64pow10", "math/bits.deBruijn32tab", "math/bits.deBruijn64tab"], apart := false, laid := [("math/bits.deBruijn32tab", laid_math_bits_deBruijn32tab), ("math/bits.deBruijn64tab", laid_math_bits_deBruijn64tab), ("internal/strconv.uint64pow10", laid_internal_strconv_uint64pow10)] }
def QueryChecksSaid : Prop := queryChecksRow.holds Tryd.pinned (OpenSpec.ofChange queryChecksSpec)

/-- ITS FALSE NEIGHBOUR: 'it returns false'. Refute it at one input. -/
def queryChecksWrong : ChangeSpec := { name := "queryChecks", fn := fun _ => fun
  | [d1, d2, d3] => { results := [.lit (.bool false)], args := [d1, d2, d3] }
  | _ => none }
def QueryChecksWrongFalsely : Prop := queryChecksRow.holds Tryd.pinned (OpenSpec.ofChange queryChecksWrong)

/-- 'stratumlaw06.QueryTop': WHATEVER THE INPUT: true; the input reads as it did. -/
def queryTopSpec : ChangeSpec := { name := "queryTop", fn := fun _ => fun
  | [d1, d2, d3, d4, d5] => { results := [.lit (.bool true)], args := [d1, d2, d3, d4, d5] }
  | _ => none }
def queryTopRow : OpenClaim := { program := "ythpacapdaembpaadoor", sum := "a379e06e5c7a3d78cec53e70cfe71d49cd3911eac3ec171b4d6a7524ccca1164", func := "stratum/stratumlaw06.QueryTop", spec := "queryTop", unfollowed := true, recurses := true, named := ["internal/strconv.uint64pow10", "math/bits.deBruijn32tab", "math/bits.deBruijn64tab"], apart := false, laid := [("math/bits.deBruijn32tab", laid_math_bits_deBruijn32tab), ("math/bits.deBruijn64tab", laid_math_bits_deBruijn64tab), ("internal/strconv.uint64pow10", laid_internal_strconv_uint64pow10)] }
def QueryTopSaid : Prop := queryTopRow.holds Tryd.pinned (OpenSpec.ofChange queryTopSpec)

/-- ITS FALSE NEIGHBOUR: 'it returns false'. Refute it at one input. -/
def queryTopWrong : ChangeSpec := { name := "queryTop", fn := fun _ => fun
  | [d1, d2, d3, d4, d5] => { results := [.lit (.bool false)], args := [d1, d2, d3, d4, d5] }
  | _ => none }
def QueryTopWrongFalsely : Prop := queryTopRow.holds Tryd.pinned (OpenSpec.ofChange queryTopWrong)

/-- 'stratumlaw06.QueryJoins': WHATEVER THE INPUT: true; the input reads as it did. -/
def queryJoinsSpec : ChangeSpec := { name := "queryJoins", fn := fun _ => fun
  | [d] => { results := [.lit (.bool true)], args := [d] }
  | _ => none }
def queryJoinsRow : OpenClaim := { program := "ythpacapdaembpaadoor", sum := "a379e06e5c7a3d78cec53e70cfe71d49cd3911eac3ec171b4d6a7524ccca1164", func := "stratum/stratumlaw06.QueryJoins", spec := "queryJoins", unfollowed := true, recurses := true, named := ["internal/strconv.uint64pow10", "math/bits.deBruijn32tab", "math/bits.deBruijn64tab"], apart := false, laid := [("math/bits.deBruijn32tab", laid_math_bits_deBruijn32tab), ("math/bits.deBruijn64tab", laid_math_bits_deBruijn64tab), ("internal/strconv.uint64pow10", laid_internal_strconv_uint64pow10)] }
def QueryJoinsSaid : Prop := queryJoinsRow.holds Tryd.pinned (OpenSpec.ofChange queryJoinsSpec)

/-- ITS FALSE NEIGHBOUR: 'it returns false'. Refute it at one input. -/
def queryJoinsWrong : ChangeSpec := { name := "queryJoins", fn := fun _ => fun
  | [d] => { results := [.lit (.bool false)], args := [d] }
  | _ => none }
def QueryJoinsWrongFalsely : Prop := queryJoinsRow.holds Tryd.pinned (OpenSpec.ofChange queryJoinsWrong)

/-- 'stratumlaw06.QueryParts': WHATEVER THE INPUT: true; the input reads as it did. -/
def queryPartsSpec : ChangeSpec := { name := "queryParts", fn := fun _ => fun
  | [d1, d2, d3, d4, d5, d6, d7] => { results := [.lit (.bool true)], args := [d1, d2, d3, d4, d5, d6, d7] }
  | _ => none }
def queryPartsRow : OpenClaim := { program := "ythpacapdaembpaadoor", sum := "a379e06e5c7a3d78cec53e70cfe71d49cd3911eac3ec171b4d6a7524ccca1164", func := "stratum/stratumlaw06.QueryParts", spec := "queryParts", unfollowed := true, recurses := true, named := ["internal/strconv.uint64pow10", "math/bits.deBruijn32tab", "math/bits.deBruijn64tab"], apart := false, laid := [("math/bits.deBruijn32tab", laid_math_bits_deBruijn32tab), ("math/bits.deBruijn64tab", laid_math_bits_deBruijn64tab), ("internal/strconv.uint64pow10", laid_internal_strconv_uint64pow10)] }
def QueryPartsSaid : Prop := queryPartsRow.holds Tryd.pinned (OpenSpec.ofChange queryPartsSpec)

/-- ITS FALSE NEIGHBOUR: 'it returns false'. Refute it at one input. -/
def queryPartsWrong : ChangeSpec := { name := "queryParts", fn := fun _ => fun
  | [d1, d2, d3, d4, d5, d6, d7] => { results := [.lit (.bool false)], args := [d1, d2, d3, d4, d5, d6, d7] }
  | _ => none }
def QueryPartsWrongFalsely : Prop := queryPartsRow.holds Tryd.pinned (OpenSpec.ofChange queryPartsWrong)

/-- 'stratumlaw06.QueryBoxes': WHATEVER THE INPUT: true; the input reads as it did. -/
def queryBoxesSpec : ChangeSpec := { name := "queryBoxes", fn := fun _ => fun
  | [d1, d2, d3, d4, d5, d6, d7] => { results := [.lit (.bool true)], args := [d1, d2, d3, d4, d5, d6, d7] }
  | _ => none }
def queryBoxesRow : OpenClaim := { program := "ythpacapdaembpaadoor", sum := "a379e06e5c7a3d78cec53e70cfe71d49cd3911eac3ec171b4d6a7524ccca1164", func := "stratum/stratumlaw06.QueryBoxes", spec := "queryBoxes", unfollowed := true, recurses := true, named := ["internal/strconv.uint64pow10", "math/bits.deBruijn32tab", "math/bits.deBruijn64tab"], apart := false, laid := [("math/bits.deBruijn32tab", laid_math_bits_deBruijn32tab), ("math/bits.deBruijn64tab", laid_math_bits_deBruijn64tab), ("internal/strconv.uint64pow10", laid_internal_strconv_uint64pow10)] }
def QueryBoxesSaid : Prop := queryBoxesRow.holds Tryd.pinned (OpenSpec.ofChange queryBoxesSpec)

/-- ITS FALSE NEIGHBOUR: 'it returns false'. Refute it at one input. -/
def queryBoxesWrong : ChangeSpec := { name := "queryBoxes", fn := fun _ => fun
  | [d1, d2, d3, d4, d5, d6, d7] => { results := [.lit (.bool false)], args := [d1, d2, d3, d4, d5, d6, d7] }
  | _ => none }
def QueryBoxesWrongFalsely : Prop := queryBoxesRow.holds Tryd.pinned (OpenSpec.ofChange queryBoxesWrong)

/-- 'stratumlaw06.QueryEmpty': WHATEVER THE INPUT: true; the input reads as it did. -/
def queryEmptySpec : ChangeSpec := { name := "queryEmpty", fn := fun _ => fun
  | [d1, d2, d3, d4, d5, d6] => { results := [.lit (.bool true)], args := [d1, d2, d3, d4, d5, d6] }
  | _ => none }
def queryEmptyRow : OpenClaim := { program := "ythpacapdaembpaadoor", sum := "a379e06e5c7a3d78cec53e70cfe71d49cd3911eac3ec171b4d6a7524ccca1164", func := "stratum/stratumlaw06.QueryEmpty", spec := "queryEmpty", unfollowed := true, recurses := true, named := ["internal/strconv.uint64pow10", "math/bits.deBruijn32tab", "math/bits.deBruijn64tab"], apart := false, laid := [("math/bits.deBruijn32tab", laid_math_bits_deBruijn32tab), ("math/bits.deBruijn64tab", laid_math_bits_deBruijn64tab), ("internal/strconv.uint64pow10", laid_internal_strconv_uint64pow10)] }
def QueryEmptySaid : Prop := queryEmptyRow.holds Tryd.pinned (OpenSpec.ofChange queryEmptySpec)

/-- ITS FALSE NEIGHBOUR: 'it returns false'. Refute it at one input. -/
def queryEmptyWrong : ChangeSpec := { name := "queryEmpty", fn := fun _ => fun
  | [d1, d2, d3, d4, d5, d6] => { results := [.lit (.bool false)], args := [d1, d2, d3, d4, d5, d6] }
  | _ => none }
def QueryEmptyWrongFalsely : Prop := queryEmptyRow.holds Tryd.pinned (OpenSpec.ofChange queryEmptyWrong)

/- THE SECOND FORM. 'bulk': how many values and letters a reading holds, each counted each time it is reached (what is shared counts as often as it is met; a slice's spare places count too). A statement '..UptoSaid' is the law's where the arguments, and the package variables that the reading takes, are together of bulk at most 1048576: NARROWER than '..Said'. Prove '..Said' where nothing that the law and all that it calls make is longer than what came in: it says more and counts as full. Else prove '..UptoSaid'. A law counts once. -/
mutual
def uptoBulk {H : Type} : DataW H → Nat
  | .lit (.string bytes) => bytes.length + 1
  | .lit _ => 1
  | .nil => 1
  | .ptr d => uptoBulk d + 1
  | .slice elems spare => uptoBulkAll elems + uptoBulkAll spare + 1
  | .agg parts => uptoBulkAll parts + 1
  | .iface _ d => uptoBulk d + 1
  | .map entries => uptoBulkEntries entries + 1
  | .held _ => 1
def uptoBulkAll {H : Type} : List (DataW H) → Nat
  | [] => 0
  | d :: r => uptoBulk d + uptoBulkAll r
def uptoBulkEntries {H : Type} : List (Lit × DataW H) → Nat
  | [] => 0
  | x :: r => uptoBulkEntry x + uptoBulkEntries r
def uptoBulkEntry {H : Type} : Lit × DataW H → Nat
  | (.string bytes, d) => bytes.length + uptoBulk d + 1
  | (_, d) => uptoBulk d + 1
 end
def uptoSmall : (H : Type) → List (DataW H) → Bool := fun _ ds => decide (uptoBulkAll ds ≤ 1048576)
def OpenSpec.upto (s : _root_.Go.ChangeSpec) : _root_.Go.OpenSpec := { _root_.Go.OpenSpec.ofChange s with cond := some uptoSmall }

/-- 'stratumlaw04.TableSounds', WHERE WHAT IT READS IS OF BULK AT MOST 1048576: true; the input reads as it did. -/
def tableSoundsUptoRow : OpenClaim := { program := "ythpacapdaembpaadoor", sum := "a379e06e5c7a3d78cec53e70cfe71d49cd3911eac3ec171b4d6a7524ccca1164", func := "stratum/stratumlaw04.TableSounds", spec := "tableSounds", unfollowed := true, recurses := true, named := ["internal/strconv.uint64pow10", "math/bits.deBruijn32tab", "math/bits.deBruijn64tab"], apart := false, laid := [("math/bits.deBruijn32tab", laid_math_bits_deBruijn32tab), ("math/bits.deBruijn64tab", laid_math_bits_deBruijn64tab), ("internal/strconv.uint64pow10", laid_internal_strconv_uint64pow10)], narrowed := true }
def TableSoundsUptoSaid : Prop := tableSoundsUptoRow.holds Tryd.pinned (OpenSpec.upto tableSoundsSpec)

/-- 'stratumlaw04.TableMakes', WHERE WHAT IT READS IS OF BULK AT MOST 1048576: true; the input reads as it did. -/
def tableMakesUptoRow : OpenClaim := { program := "ythpacapdaembpaadoor", sum := "a379e06e5c7a3d78cec53e70cfe71d49cd3911eac3ec171b4d6a7524ccca1164", func := "stratum/stratumlaw04.TableMakes", spec := "tableMakes", unfollowed := true, recurses := true, named := ["internal/strconv.uint64pow10", "math/bits.deBruijn32tab", "math/bits.deBruijn64tab"], apart := false, laid := [("math/bits.deBruijn32tab", laid_math_bits_deBruijn32tab), ("math/bits.deBruijn64tab", laid_math_bits_deBruijn64tab), ("internal/strconv.uint64pow10", laid_internal_strconv_uint64pow10)], narrowed := true }
def TableMakesUptoSaid : Prop := tableMakesUptoRow.holds Tryd.pinned (OpenSpec.upto tableMakesSpec)

/-- 'stratumlaw04.TableOne', WHERE WHAT IT READS IS OF BULK AT MOST 1048576: true; the input reads as it did. -/
def tableOneUptoRow : OpenClaim := { program := "ythpacapdaembpaadoor", sum := "a379e06e5c7a3d78cec53e70cfe71d49cd3911eac3ec171b4d6a7524ccca1164", func := "stratum/stratumlaw04.TableOne", spec := "tableOne", unfollowed := true, recurses := true, named := ["internal/strconv.uint64pow10", "math/bits.deBruijn32tab", "math/bits.deBruijn64tab"], apart := false, laid := [("math/bits.deBruijn32tab", laid_math_bits_deBruijn32tab), ("math/bits.deBruijn64tab", laid_math_bits_deBruijn64tab), ("internal/strconv.uint64pow10", laid_internal_strconv_uint64pow10)], narrowed := true }
def TableOneUptoSaid : Prop := tableOneUptoRow.holds Tryd.pinned (OpenSpec.upto tableOneSpec)

/-- 'stratumlaw04.TableMerges', WHERE WHAT IT READS IS OF BULK AT MOST 1048576: true; the input reads as it did. -/
def tableMergesUptoRow : OpenClaim := { program := "ythpacapdaembpaadoor", sum := "a379e06e5c7a3d78cec53e70cfe71d49cd3911eac3ec171b4d6a7524ccca1164", func := "stratum/stratumlaw04.TableMerges", spec := "tableMerges", unfollowed := true, recurses := true, named := ["internal/strconv.uint64pow10", "math/bits.deBruijn32tab", "math/bits.deBruijn64tab"], apart := false, laid := [("math/bits.deBruijn32tab", laid_math_bits_deBruijn32tab), ("math/bits.deBruijn64tab", laid_math_bits_deBruijn64tab), ("internal/strconv.uint64pow10", laid_internal_strconv_uint64pow10)], narrowed := true }
def TableMergesUptoSaid : Prop := tableMergesUptoRow.holds Tryd.pinned (OpenSpec.upto tableMergesSpec)

/-- 'stratumlaw04.TableOrder', WHERE WHAT IT READS IS OF BULK AT MOST 1048576: true; the input reads as it did. -/
def tableOrderUptoRow : OpenClaim := { program := "ythpacapdaembpaadoor", sum := "a379e06e5c7a3d78cec53e70cfe71d49cd3911eac3ec171b4d6a7524ccca1164", func := "stratum/stratumlaw04.TableOrder", spec := "tableOrder", unfollowed := true, recurses := true, named := ["internal/strconv.uint64pow10", "math/bits.deBruijn32tab", "math/bits.deBruijn64tab"], apart := false, laid := [("math/bits.deBruijn32tab", laid_math_bits_deBruijn32tab), ("math/bits.deBruijn64tab", laid_math_bits_deBruijn64tab), ("internal/strconv.uint64pow10", laid_internal_strconv_uint64pow10)], narrowed := true }
def TableOrderUptoSaid : Prop := tableOrderUptoRow.holds Tryd.pinned (OpenSpec.upto tableOrderSpec)

/-- 'stratumlaw04.TableRolls', WHERE WHAT IT READS IS OF BULK AT MOST 1048576: true; the input reads as it did. -/
def tableRollsUptoRow : OpenClaim := { program := "ythpacapdaembpaadoor", sum := "a379e06e5c7a3d78cec53e70cfe71d49cd3911eac3ec171b4d6a7524ccca1164", func := "stratum/stratumlaw04.TableRolls", spec := "tableRolls", unfollowed := true, recurses := true, named := ["internal/strconv.uint64pow10", "math/bits.deBruijn32tab", "math/bits.deBruijn64tab"], apart := false, laid := [("math/bits.deBruijn32tab", laid_math_bits_deBruijn32tab), ("math/bits.deBruijn64tab", laid_math_bits_deBruijn64tab), ("internal/strconv.uint64pow10", laid_internal_strconv_uint64pow10)], narrowed := true }
def TableRollsUptoSaid : Prop := tableRollsUptoRow.holds Tryd.pinned (OpenSpec.upto tableRollsSpec)

/-- 'stratumlaw04.TableGoes', WHERE WHAT IT READS IS OF BULK AT MOST 1048576: true; the input reads as it did. -/
def tableGoesUptoRow : OpenClaim := { program := "ythpacapdaembpaadoor", sum := "a379e06e5c7a3d78cec53e70cfe71d49cd3911eac3ec171b4d6a7524ccca1164", func := "stratum/stratumlaw04.TableGoes", spec := "tableGoes", unfollowed := true, recurses := true, named := ["internal/strconv.uint64pow10", "math/bits.deBruijn32tab", "math/bits.deBruijn64tab"], apart := false, laid := [("math/bits.deBruijn32tab", laid_math_bits_deBruijn32tab), ("math/bits.deBruijn64tab", laid_math_bits_deBruijn64tab), ("internal/strconv.uint64pow10", laid_internal_strconv_uint64pow10)], narrowed := true }
def TableGoesUptoSaid : Prop := tableGoesUptoRow.holds Tryd.pinned (OpenSpec.upto tableGoesSpec)

/-- 'stratumlaw04.TableSteps', WHERE WHAT IT READS IS OF BULK AT MOST 1048576: true; the input reads as it did. -/
def tableStepsUptoRow : OpenClaim := { program := "ythpacapdaembpaadoor", sum := "a379e06e5c7a3d78cec53e70cfe71d49cd3911eac3ec171b4d6a7524ccca1164", func := "stratum/stratumlaw04.TableSteps", spec := "tableSteps", unfollowed := true, recurses := true, named := ["internal/strconv.uint64pow10", "math/bits.deBruijn32tab", "math/bits.deBruijn64tab"], apart := false, laid := [("math/bits.deBruijn32tab", laid_math_bits_deBruijn32tab), ("math/bits.deBruijn64tab", laid_math_bits_deBruijn64tab), ("internal/strconv.uint64pow10", laid_internal_strconv_uint64pow10)], narrowed := true }
def TableStepsUptoSaid : Prop := tableStepsUptoRow.holds Tryd.pinned (OpenSpec.upto tableStepsSpec)

/-- 'stratumlaw06.QueryChecks', WHERE WHAT IT READS IS OF BULK AT MOST 1048576: true; the input reads as it did. -/
def queryChecksUptoRow : OpenClaim := { program := "ythpacapdaembpaadoor", sum := "a379e06e5c7a3d78cec53e70cfe71d49cd3911eac3ec171b4d6a7524ccca1164", func := "stratum/stratumlaw06.QueryChecks", spec := "queryChecks", unfollowed := true, recurses := true, named := ["internal/strconv.uint64pow10", "math/bits.deBruijn32tab", "math/bits.deBruijn64tab"], apart := false, laid := [("math/bits.deBruijn32tab", laid_math_bits_deBruijn32tab), ("math/bits.deBruijn64tab", laid_math_bits_deBruijn64tab), ("internal/strconv.uint64pow10", laid_internal_strconv_uint64pow10)], narrowed := true }
def QueryChecksUptoSaid : Prop := queryChecksUptoRow.holds Tryd.pinned (OpenSpec.upto queryChecksSpec)

/-- 'stratumlaw06.QueryTop', WHERE WHAT IT READS IS OF BULK AT MOST 1048576: true; the input reads as it did. -/
def queryTopUptoRow : OpenClaim := { program := "ythpacapdaembpaadoor", sum := "a379e06e5c7a3d78cec53e70cfe71d49cd3911eac3ec171b4d6a7524ccca1164", func := "stratum/stratumlaw06.QueryTop", spec := "queryTop", unfollowed := true, recurses := true, named := ["internal/strconv.uint64pow10", "math/bits.deBruijn32tab", "math/bits.deBruijn64tab"], apart := false, laid := [("math/bits.deBruijn32tab", laid_math_bits_deBruijn32tab), ("math/bits.deBruijn64tab", laid_math_bits_deBruijn64tab), ("internal/strconv.uint64pow10", laid_internal_strconv_uint64pow10)], narrowed := true }
def QueryTopUptoSaid : Prop := queryTopUptoRow.holds Tryd.pinned (OpenSpec.upto queryTopSpec)

/-- 'stratumlaw06.QueryJoins', WHERE WHAT IT READS IS OF BULK AT MOST 1048576: true; the input reads as it did. -/
def queryJoinsUptoRow : OpenClaim := { program := "ythpacapdaembpaadoor", sum := "a379e06e5c7a3d78cec53e70cfe71d49cd3911eac3ec171b4d6a7524ccca1164", func := "stratum/stratumlaw06.QueryJoins", spec := "queryJoins", unfollowed := true, recurses := true, named := ["internal/strconv.uint64pow10", "math/bits.deBruijn32tab", "math/bits.deBruijn64tab"], apart := false, laid := [("math/bits.deBruijn32tab", laid_math_bits_deBruijn32tab), ("math/bits.deBruijn64tab", laid_math_bits_deBruijn64tab), ("internal/strconv.uint64pow10", laid_internal_strconv_uint64pow10)], narrowed := true }
def QueryJoinsUptoSaid : Prop := queryJoinsUptoRow.holds Tryd.pinned (OpenSpec.upto queryJoinsSpec)

/-- 'stratumlaw06.QueryParts', WHERE WHAT IT READS IS OF BULK AT MOST 1048576: true; the input reads as it did. -/
def queryPartsUptoRow : OpenClaim := { program := "ythpacapdaembpaadoor", sum := "a379e06e5c7a3d78cec53e70cfe71d49cd3911eac3ec171b4d6a7524ccca1164", func := "stratum/stratumlaw06.QueryParts", spec := "queryParts", unfollowed := true, recurses := true, named := ["internal/strconv.uint64pow10", "math/bits.deBruijn32tab", "math/bits.deBruijn64tab"], apart := false, laid := [("math/bits.deBruijn32tab", laid_math_bits_deBruijn32tab), ("math/bits.deBruijn64tab", laid_math_bits_deBruijn64tab), ("internal/strconv.uint64pow10", laid_internal_strconv_uint64pow10)], narrowed := true }
def QueryPartsUptoSaid : Prop := queryPartsUptoRow.holds Tryd.pinned (OpenSpec.upto queryPartsSpec)

/-- 'stratumlaw06.QueryBoxes', WHERE WHAT IT READS IS OF BULK AT MOST 1048576: true; the input reads as it did. -/
def queryBoxesUptoRow : OpenClaim := { program := "ythpacapdaembpaadoor", sum := "a379e06e5c7a3d78cec53e70cfe71d49cd3911eac3ec171b4d6a7524ccca1164", func := "stratum/stratumlaw06.QueryBoxes", spec := "queryBoxes", unfollowed := true, recurses := true, named := ["internal/strconv.uint64pow10", "math/bits.deBruijn32tab", "math/bits.deBruijn64tab"], apart := false, laid := [("math/bits.deBruijn32tab", laid_math_bits_deBruijn32tab), ("math/bits.deBruijn64tab", laid_math_bits_deBruijn64tab), ("internal/strconv.uint64pow10", laid_internal_strconv_uint64pow10)], narrowed := true }
def QueryBoxesUptoSaid : Prop := queryBoxesUptoRow.holds Tryd.pinned (OpenSpec.upto queryBoxesSpec)

/-- 'stratumlaw06.QueryEmpty', WHERE WHAT IT READS IS OF BULK AT MOST 1048576: true; the input reads as it did. -/
def queryEmptyUptoRow : OpenClaim := { program := "ythpacapdaembpaadoor", sum := "a379e06e5c7a3d78cec53e70cfe71d49cd3911eac3ec171b4d6a7524ccca1164", func := "stratum/stratumlaw06.QueryEmpty", spec := "queryEmpty", unfollowed := true, recurses := true, named := ["internal/strconv.uint64pow10", "math/bits.deBruijn32tab", "math/bits.deBruijn64tab"], apart := false, laid := [("math/bits.deBruijn32tab", laid_math_bits_deBruijn32tab), ("math/bits.deBruijn64tab", laid_math_bits_deBruijn64tab), ("internal/strconv.uint64pow10", laid_internal_strconv_uint64pow10)], narrowed := true }
def QueryEmptyUptoSaid : Prop := queryEmptyUptoRow.holds Tryd.pinned (OpenSpec.upto queryEmptySpec)

end Rows
end Go.Proofs.YthpacapdaembpaaDoor
