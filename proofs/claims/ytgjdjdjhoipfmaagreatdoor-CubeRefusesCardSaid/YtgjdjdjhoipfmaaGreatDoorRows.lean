/-
  NARROWER THAN 'FOR EVERY INPUT', by the rows' own cells (each row's printed sentence says how): CubeKeeps: laid · CubeOwn: laid · CubeTimes: laid · CubeAsks: laid · CubeCuts: laid · CubeDoes: laid · CubeMoves: laid · CubeRefuses: laid.
  DERIVED. THE GIVEN ROWS OF THIS SEAT. 8 by the template 'for every input the law returns true; each argument reads behind the call as it read before'; 0 by the template 'total and deterministic' (their statements: YtgjdjdjhoipfmaaGreatDoorTotals.lean).
  GIVEN WITH THE SEED: the statements are not yours to turn. If you find one false, say at which input.
  Laid BY PROGRAM, IN A SANDBOX (cutbox-rows.mjs): the forced cells as the released guide's own fill.sh prints them over the translation 58897805a7c102c1… (all of the seat's roots in one cut). By AI agents, Wed Nov 11 2026. No macro, syntax, notation, axiom, sorry.
-/
import Derived.Test.YtgjdjdjhoipfmaaGreatDoorChecked
import GoSem.Claim
import GoSem.ClaimJoined
import GoSem.ClaimMapViews
import Derived.JoinedTies
import Derived.KernelRfl
namespace Go.Proofs.YtgjdjdjhoipfmaaGreatDoor
/- THE CELL 'sum', in the pinned program and in every row, IS THE sha256 OF THE DUMP (.gsa) THAT YtgjdjdjhoipfmaaGreatDoorProg.lean LOADS. Nothing in Lean hashes anything: it is a label: what it is worth is what the hold of that sum in a sandbox is worth. -/
noncomputable def Tryz.pinned : Pinned := { name := "ytgjdjdjhoipfmaagreatdoor", sum := "58897805a7c102c1b7b32075a998342ced3a37c1f4a9230acd51bdd789a6abe1", checked := Tryz.checked }
namespace Rows
def none {H : Type} : Left H := { results := [], args := [] }

/- WHAT THE LISTED PACKAGE-LEVEL VARIABLES READ AS WHEN THE CALL BEGINS. Each datum BY PROGRAM (the guide's laid-datum.mjs) off the statement by which the dump's own 'gosem.cut.vars' lays the variable. In a bare row this is a premise. The card (YtgjdjdjhoipfmaaGreatDoorCards.lean) ties it to the program's text. -/
def laid_math_bits_deBruijn32tab {H : Type} : DataW H := .agg [.lit (.int .u8 0), .lit (.int .u8 1), .lit (.int .u8 28), .lit (.int .u8 2), .lit (.int .u8 29), .lit (.int .u8 14), .lit (.int .u8 24), .lit (.int .u8 3), .lit (.int .u8 30), .lit (.int .u8 22), .lit (.int .u8 20), .lit (.int .u8 15), .lit (.int .u8 25), .lit (.int .u8 17), .lit (.int .u8 4), .lit (.int .u8 8), .lit (.int .u8 31), .lit (.int .u8 27), .lit (.int .u8 13), .lit (.int .u8 23), .lit (.int .u8 21), .lit (.int .u8 19), .lit (.int .u8 16), .lit (.int .u8 7), .lit (.int .u8 26), .lit (.int .u8 12), .lit (.int .u8 18), .lit (.int .u8 6), .lit (.int .u8 11), .lit (.int .u8 5), .lit (.int .u8 10), .lit (.int .u8 9)]
def laid_math_bits_deBruijn64tab {H : Type} : DataW H := .agg [.lit (.int .u8 0), .lit (.int .u8 1), .lit (.int .u8 56), .lit (.int .u8 2), .lit (.int .u8 57), .lit (.int .u8 49), .lit (.int .u8 28), .lit (.int .u8 3), .lit (.int .u8 61), .lit (.int .u8 58), .lit (.int .u8 42), .lit (.int .u8 50), .lit (.int .u8 38), .lit (.int .u8 29), .lit (.int .u8 17), .lit (.int .u8 4), .lit (.int .u8 62), .lit (.int .u8 47), .lit (.int .u8 59), .lit (.int .u8 36), .lit (.int .u8 45), .lit (.int .u8 43), .lit (.int .u8 51), .lit (.int .u8 22), .lit (.int .u8 53), .lit (.int .u8 39), .lit (.int .u8 33), .lit (.int .u8 30), .lit (.int .u8 24), .lit (.int .u8 18), .lit (.int .u8 12), .lit (.int .u8 5), .lit (.int .u8 63), .lit (.int .u8 55), .lit (.int .u8 48), .lit (.int .u8 27), .lit (.int .u8 60), .lit (.int .u8 41), .lit (.int .u8 37), .lit (.int .u8 16), .lit (.int .u8 46), .lit (.int .u8 35), .lit (.int .u8 44), .lit (.int .u8 21), .lit (.int .u8 52), .lit (.int .u8 32), .lit (.int .u8 23), .lit (.int .u8 11), .lit (.int .u8 54), .lit (.int .u8 26), .lit (.int .u8 40), .lit (.int .u8 15), .lit (.int .u8 34), .lit (.int .u8 20), .lit (.int .u8 31), .lit (.int .u8 10), .lit (.int .u8 25), .lit (.int .u8 14), .lit (.int .u8 19), .lit (.int .u8 9), .lit (.int .u8 13), .lit (.int .u8 8), .lit (.int .u8 7), .lit (.int .u8 6)]
def laid_internal_strconv_uint64pow10 {H : Type} : DataW H := .agg [.lit (.int .u64 1), .lit (.int .u64 10), .lit (.int .u64 100), .lit (.int .u64 1000), .lit (.int .u64 10000), .lit (.int .u64 100000), .lit (.int .u64 1000000), .lit (.int .u64 10000000), .lit (.int .u64 100000000), .lit (.int .u64 1000000000), .lit (.int .u64 10000000000), .lit (.int .u64 100000000000), .lit (.int .u64 1000000000000), .lit (.int .u64 10000000000000), .lit (.int .u64 100000000000000), .lit (.int .u64 1000000000000000), .lit (.int .u64 10000000000000000), .lit (.int .u64 100000000000000000), .lit (.int .u64 1000000000000000000), .lit (.int .u64 10000000000000000000)]

/-- 'stratumlaw13.CubeKeeps': WHATEVER THE INPUT: true; the input reads as it did. -/
def cubeKeepsSpec : ChangeSpec := { name := "cubeKeeps", fn := fun _ => fun
  | [d1, d2, d3, d4, d5, d6, d7, d8] => { results := [.lit (.bool true)], args := [d1, d2, d3, d4, d5, d6, d7, d8] }
  | _ => none }
def cubeKeepsRow : OpenClaim := { program := "ytgjdjdjhoipfmaagreatdoor", sum := "58897805a7c102c1b7b32075a998342ced3a37c1f4a9230acd51bdd789a6abe1", func := "stratum/stratumlaw13.CubeKeeps", spec := "cubeKeeps", inPlace := ["slices.overlaps[stratum/api.Entry]"], unfollowed := true, recurses := true, named := ["internal/strconv.uint64pow10", "math/bits.deBruijn32tab", "math/bits.deBruijn64tab"], apart := false, laid := [("math/bits.deBruijn32tab", laid_math_bits_deBruijn32tab), ("math/bits.deBruijn64tab", laid_math_bits_deBruijn64tab), ("internal/strconv.uint64pow10", laid_internal_strconv_uint64pow10)] }
def CubeKeepsSaid : Prop := cubeKeepsRow.holds Tryz.pinned (OpenSpec.ofChange cubeKeepsSpec)

/-- ITS FALSE NEIGHBOUR: 'it returns false'. Refute it at one input. -/
def cubeKeepsWrong : ChangeSpec := { name := "cubeKeeps", fn := fun _ => fun
  | [d1, d2, d3, d4, d5, d6, d7, d8] => { results := [.lit (.bool false)], args := [d1, d2, d3, d4, d5, d6, d7, d8] }
  | _ => none }
def CubeKeepsWrongFalsely : Prop := cubeKeepsRow.holds Tryz.pinned (OpenSpec.ofChange cubeKeepsWrong)

/-- 'stratumlaw13.CubeOwn': WHATEVER THE INPUT: true; the input reads as it did. -/
def cubeOwnSpec : ChangeSpec := { name := "cubeOwn", fn := fun _ => fun
  | [d1, d2, d3] => { results := [.lit (.bool true)], args := [d1, d2, d3] }
  | _ => none }
def cubeOwnRow : OpenClaim := { program := "ytgjdjdjhoipfmaagreatdoor", sum := "58897805a7c102c1b7b32075a998342ced3a37c1f4a9230acd51bdd789a6abe1", func := "stratum/stratumlaw13.CubeOwn", spec := "cubeOwn", inPlace := ["slices.overlaps[stratum/api.Entry]"], unfollowed := true, recurses := true, named := ["internal/strconv.uint64pow10", "math/bits.deBruijn32tab", "math/bits.deBruijn64tab"], apart := false, laid := [("math/bits.deBruijn32tab", laid_math_bits_deBruijn32tab), ("math/bits.deBruijn64tab", laid_math_bits_deBruijn64tab), ("internal/strconv.uint64pow10", laid_internal_strconv_uint64pow10)] }
def CubeOwnSaid : Prop := cubeOwnRow.holds Tryz.pinned (OpenSpec.ofChange cubeOwnSpec)

/-- ITS FALSE NEIGHBOUR: 'it returns false'. Refute it at one input. -/
def cubeOwnWrong : ChangeSpec := { name := "cubeOwn", fn := fun _ => fun
  | [d1, d2, d3] => { results := [.lit (.bool false)], args := [d1, d2, d3] }
  | _ => none }
def CubeOwnWrongFalsely : Prop := cubeOwnRow.holds Tryz.pinned (OpenSpec.ofChange cubeOwnWrong)

/-- 'stratumlaw13.CubeTimes': WHATEVER THE INPUT: true; the input reads as it did. -/
def cubeTimesSpec : ChangeSpec := { name := "cubeTimes", fn := fun _ => fun
  | [d1, d2, d3] => { results := [.lit (.bool true)], args := [d1, d2, d3] }
  | _ => none }
def cubeTimesRow : OpenClaim := { program := "ytgjdjdjhoipfmaagreatdoor", sum := "58897805a7c102c1b7b32075a998342ced3a37c1f4a9230acd51bdd789a6abe1", func := "stratum/stratumlaw13.CubeTimes", spec := "cubeTimes", inPlace := ["slices.overlaps[stratum/api.Entry]"], unfollowed := true, recurses := true, named := ["internal/strconv.uint64pow10", "math/bits.deBruijn32tab", "math/bits.deBruijn64tab"], apart := false, laid := [("math/bits.deBruijn32tab", laid_math_bits_deBruijn32tab), ("math/bits.deBruijn64tab", laid_math_bits_deBruijn64tab), ("internal/strconv.uint64pow10", laid_internal_strconv_uint64pow10)] }
def CubeTimesSaid : Prop := cubeTimesRow.holds Tryz.pinned (OpenSpec.ofChange cubeTimesSpec)

/-- ITS FALSE NEIGHBOUR: 'it returns false'. Refute it at one input. -/
def cubeTimesWrong : ChangeSpec := { name := "cubeTimes", fn := fun _ => fun
  | [d1, d2, d3] => { results := [.lit (.bool false)], args := [d1, d2, d3] }
  | _ => none }
def CubeTimesWrongFalsely : Prop := cubeTimesRow.holds Tryz.pinned (OpenSpec.ofChange cubeTimesWrong)

/-- 'stratumlaw13.CubeAsks': WHATEVER THE INPUT: true; the input reads as it did. -/
def cubeAsksSpec : ChangeSpec := { name := "cubeAsks", fn := fun _ => fun
  | [d1, d2, d3, d4] => { results := [.lit (.bool true)], args := [d1, d2, d3, d4] }
  | _ => none }
def cubeAsksRow : OpenClaim := { program := "ytgjdjdjhoipfmaagreatdoor", sum := "58897805a7c102c1b7b32075a998342ced3a37c1f4a9230acd51bdd789a6abe1", func := "stratum/stratumlaw13.CubeAsks", spec := "cubeAsks", inPlace := ["slices.overlaps[stratum/api.Entry]"], unfollowed := true, recurses := true, named := ["internal/strconv.uint64pow10", "math/bits.deBruijn32tab", "math/bits.deBruijn64tab"], apart := false, laid := [("math/bits.deBruijn32tab", laid_math_bits_deBruijn32tab), ("math/bits.deBruijn64tab", laid_math_bits_deBruijn64tab), ("internal/strconv.uint64pow10", laid_internal_strconv_uint64pow10)] }
def CubeAsksSaid : Prop := cubeAsksRow.holds Tryz.pinned (OpenSpec.ofChange cubeAsksSpec)

/-- ITS FALSE NEIGHBOUR: 'it returns false'. Refute it at one input. -/
def cubeAsksWrong : ChangeSpec := { name := "cubeAsks", fn := fun _ => fun
  | [d1, d2, d3, d4] => { results := [.lit (.bool false)], args := [d1, d2, d3, d4] }
  | _ => none }
def CubeAsksWrongFalsely : Prop := cubeAsksRow.holds Tryz.pinned (OpenSpec.ofChange cubeAsksWrong)

/-- 'stratumlaw13.CubeCuts': WHATEVER THE INPUT: true; the input reads as it did. -/
def cubeCutsSpec : ChangeSpec := { name := "cubeCuts", fn := fun _ => fun
  | [d1, d2, d3, d4, d5] => { results := [.lit (.bool true)], args := [d1, d2, d3, d4, d5] }
  | _ => none }
def cubeCutsRow : OpenClaim := { program := "ytgjdjdjhoipfmaagreatdoor", sum := "58897805a7c102c1b7b32075a998342ced3a37c1f4a9230acd51bdd789a6abe1", func := "stratum/stratumlaw13.CubeCuts", spec := "cubeCuts", inPlace := ["slices.overlaps[stratum/api.Entry]"], unfollowed := true, recurses := true, named := ["internal/strconv.uint64pow10", "math/bits.deBruijn32tab", "math/bits.deBruijn64tab"], apart := false, laid := [("math/bits.deBruijn32tab", laid_math_bits_deBruijn32tab), ("math/bits.deBruijn64tab", laid_math_bits_deBruijn64tab), ("internal/strconv.uint64pow10", laid_internal_strconv_uint64pow10)] }
def CubeCutsSaid : Prop := cubeCutsRow.holds Tryz.pinned (OpenSpec.ofChange cubeCutsSpec)

/-- ITS FALSE NEIGHBOUR: 'it returns false'. Refute it at one input. -/
def cubeCutsWrong : ChangeSpec := { name := "cubeCuts", fn := fun _ => fun
  | [d1, d2, d3, d4, d5] => { results := [.lit (.bool false)], args := [d1, d2, d3, d4, d5] }
  | _ => none }
def CubeCutsWrongFalsely : Prop := cubeCutsRow.holds Tryz.pinned (OpenSpec.ofChange cubeCutsWrong)

/-- 'stratumlaw13.CubeDoes': WHATEVER THE INPUT: true; the input reads as it did. -/
def cubeDoesSpec : ChangeSpec := { name := "cubeDoes", fn := fun _ => fun
  | [d1, d2, d3, d4, d5, d6, d7, d8] => { results := [.lit (.bool true)], args := [d1, d2, d3, d4, d5, d6, d7, d8] }
  | _ => none }
def cubeDoesRow : OpenClaim := { program := "ytgjdjdjhoipfmaagreatdoor", sum := "58897805a7c102c1b7b32075a998342ced3a37c1f4a9230acd51bdd789a6abe1", func := "stratum/stratumlaw13.CubeDoes", spec := "cubeDoes", inPlace := ["slices.overlaps[stratum/api.Entry]"], unfollowed := true, recurses := true, named := ["internal/strconv.uint64pow10", "math/bits.deBruijn32tab", "math/bits.deBruijn64tab"], apart := false, laid := [("math/bits.deBruijn32tab", laid_math_bits_deBruijn32tab), ("math/bits.deBruijn64tab", laid_math_bits_deBruijn64tab), ("internal/strconv.uint64pow10", laid_internal_strconv_uint64pow10)] }
def CubeDoesSaid : Prop := cubeDoesRow.holds Tryz.pinned (OpenSpec.ofChange cubeDoesSpec)

/-- ITS FALSE NEIGHBOUR: 'it returns false'. Refute it at one input. -/
def cubeDoesWrong : ChangeSpec := { name := "cubeDoes", fn := fun _ => fun
  | [d1, d2, d3, d4, d5, d6, d7, d8] => { results := [.lit (.bool false)], args := [d1, d2, d3, d4, d5, d6, d7, d8] }
  | _ => none }
def CubeDoesWrongFalsely : Prop := cubeDoesRow.holds Tryz.pinned (OpenSpec.ofChange cubeDoesWrong)

/-- 'stratumlaw13.CubeMoves': WHATEVER THE INPUT: true; the input reads as it did. -/
def cubeMovesSpec : ChangeSpec := { name := "cubeMoves", fn := fun _ => fun
  | [d1, d2, d3, d4, d5, d6, d7] => { results := [.lit (.bool true)], args := [d1, d2, d3, d4, d5, d6, d7] }
  | _ => none }
def cubeMovesRow : OpenClaim := { program := "ytgjdjdjhoipfmaagreatdoor", sum := "58897805a7c102c1b7b32075a998342ced3a37c1f4a9230acd51bdd789a6abe1", func := "stratum/stratumlaw13.CubeMoves", spec := "cubeMoves", inPlace := ["slices.overlaps[stratum/api.Entry]"], unfollowed := true, recurses := true, named := ["internal/strconv.uint64pow10", "math/bits.deBruijn32tab", "math/bits.deBruijn64tab"], apart := false, laid := [("math/bits.deBruijn32tab", laid_math_bits_deBruijn32tab), ("math/bits.deBruijn64tab", laid_math_bits_deBruijn64tab), ("internal/strconv.uint64pow10", laid_internal_strconv_uint64pow10)] }
def CubeMovesSaid : Prop := cubeMovesRow.holds Tryz.pinned (OpenSpec.ofChange cubeMovesSpec)

/-- ITS FALSE NEIGHBOUR: 'it returns false'. Refute it at one input. -/
def cubeMovesWrong : ChangeSpec := { name := "cubeMoves", fn := fun _ => fun
  | [d1, d2, d3, d4, d5, d6, d7] => { results := [.lit (.bool false)], args := [d1, d2, d3, d4, d5, d6, d7] }
  | _ => none }
def CubeMovesWrongFalsely : Prop := cubeMovesRow.holds Tryz.pinned (OpenSpec.ofChange cubeMovesWrong)

/-- 'stratumlaw13.CubeRefuses': WHATEVER THE INPUT: true; the input reads as it did. -/
def cubeRefusesSpec : ChangeSpec := { name := "cubeRefuses", fn := fun _ => fun
  | [d1, d2, d3] => { results := [.lit (.bool true)], args := [d1, d2, d3] }
  | _ => none }
def cubeRefusesRow : OpenClaim := { program := "ytgjdjdjhoipfmaagreatdoor", sum := "58897805a7c102c1b7b32075a998342ced3a37c1f4a9230acd51bdd789a6abe1", func := "stratum/stratumlaw13.CubeRefuses", spec := "cubeRefuses", inPlace := ["slices.overlaps[stratum/api.Entry]"], unfollowed := true, recurses := true, named := ["internal/strconv.uint64pow10", "math/bits.deBruijn32tab", "math/bits.deBruijn64tab"], apart := false, laid := [("math/bits.deBruijn32tab", laid_math_bits_deBruijn32tab), ("math/bits.deBruijn64tab", laid_math_bits_deBruijn64tab), ("internal/strconv.uint64pow10", laid_internal_strconv_uint64pow10)] }
def CubeRefusesSaid : Prop := cubeRefusesRow.holds Tryz.pinned (OpenSpec.ofChange cubeRefusesSpec)

/-- ITS FALSE NEIGHBOUR: 'it returns false'. Refute it at one input. -/
def cubeRefusesWrong : ChangeSpec := { name := "cubeRefuses", fn := fun _ => fun
  | [d1, d2, d3] => { results := [.lit (.bool false)], args := [d1, d2, d3] }
  | _ => none }
def CubeRefusesWrongFalsely : Prop := cubeRefusesRow.holds Tryz.pinned (OpenSpec.ofChange cubeRefusesWrong)

/- THE SECOND FORM. 'bulk': how many values and letters a reading holds, each counted each time it is reached (what is shared counts as often as it is met; a slice's spare places count too). A statement '..UptoSaid' is the law's where the arguments, and the package variables that the reading takes, are together of bulk at most 1048576: NARROWER than '..Said'. Prove '..Said' where nothing that the law and all that it calls make is longer than what came in: it says more and counts as full. Else prove '..UptoSaid'. A law counts once. -/
mutual
def uptoBulk {H : Type} : DataW H → Nat
  | .lit (.string bytes) => bytes.length + 1
  | .lit _ => 1
  | .nil => 1
  | .ptr d => uptoBulk d + 1
  | .slice elems spare => uptoBulkAll elems + uptoBulkAll spare + 1
  | .agg parts => uptoBulkAll parts + 1
  | .iface _ d => uptoBulk d + 1
  | .map entries => uptoBulkEntries entries + 1
  | .held _ => 1
def uptoBulkAll {H : Type} : List (DataW H) → Nat
  | [] => 0
  | d :: r => uptoBulk d + uptoBulkAll r
def uptoBulkEntries {H : Type} : List (Lit × DataW H) → Nat
  | [] => 0
  | x :: r => uptoBulkEntry x + uptoBulkEntries r
def uptoBulkEntry {H : Type} : Lit × DataW H → Nat
  | (.string bytes, d) => bytes.length + uptoBulk d + 1
  | (_, d) => uptoBulk d + 1
 end
def uptoSmall : (H : Type) → List (DataW H) → Bool := fun _ ds => decide (uptoBulkAll ds ≤ 1048576)
def OpenSpec.upto (s : _root_.Go.ChangeSpec) : _root_.Go.OpenSpec := { _root_.Go.OpenSpec.ofChange s with cond := some uptoSmall }

/-- 'stratumlaw13.CubeKeeps', WHERE WHAT IT READS IS OF BULK AT MOST 1048576: true; the input reads as it did. -/
def cubeKeepsUptoRow : OpenClaim := { program := "ytgjdjdjhoipfmaagreatdoor", sum := "58897805a7c102c1b7b32075a998342ced3a37c1f4a9230acd51bdd789a6abe1", func := "stratum/stratumlaw13.CubeKeeps", spec := "cubeKeeps", inPlace := ["slices.overlaps[stratum/api.Entry]"], unfollowed := true, recurses := true, named := ["internal/strconv.uint64pow10", "math/bits.deBruijn32tab", "math/bits.deBruijn64tab"], apart := false, laid := [("math/bits.deBruijn32tab", laid_math_bits_deBruijn32tab), ("math/bits.deBruijn64tab", laid_math_bits_deBruijn64tab), ("internal/strconv.uint64pow10", laid_internal_strconv_uint64pow10)], narrowed := true }
def CubeKeepsUptoSaid : Prop := cubeKeepsUptoRow.holds Tryz.pinned (OpenSpec.upto cubeKeepsSpec)

/-- 'stratumlaw13.CubeOwn', WHERE WHAT IT READS IS OF BULK AT MOST 1048576: true; the input reads as it did. -/
def cubeOwnUptoRow : OpenClaim := { program := "ytgjdjdjhoipfmaagreatdoor", sum := "58897805a7c102c1b7b32075a998342ced3a37c1f4a9230acd51bdd789a6abe1", func := "stratum/stratumlaw13.CubeOwn", spec := "cubeOwn", inPlace := ["slices.overlaps[stratum/api.Entry]"], unfollowed := true, recurses := true, named := ["internal/strconv.uint64pow10", "math/bits.deBruijn32tab", "math/bits.deBruijn64tab"], apart := false, laid := [("math/bits.deBruijn32tab", laid_math_bits_deBruijn32tab), ("math/bits.deBruijn64tab", laid_math_bits_deBruijn64tab), ("internal/strconv.uint64pow10", laid_internal_strconv_uint64pow10)], narrowed := true }
def CubeOwnUptoSaid : Prop := cubeOwnUptoRow.holds Tryz.pinned (OpenSpec.upto cubeOwnSpec)

/-- 'stratumlaw13.CubeTimes', WHERE WHAT IT READS IS OF BULK AT MOST 1048576: true; the input reads as it did. -/
def cubeTimesUptoRow : OpenClaim := { program := "ytgjdjdjhoipfmaagreatdoor", sum := "58897805a7c102c1b7b32075a998342ced3a37c1f4a9230acd51bdd789a6abe1", func := "stratum/stratumlaw13.CubeTimes", spec := "cubeTimes", inPlace := ["slices.overlaps[stratum/api.Entry]"], unfollowed := true, recurses := true, named := ["internal/strconv.uint64pow10", "math/bits.deBruijn32tab", "math/bits.deBruijn64tab"], apart := false, laid := [("math/bits.deBruijn32tab", laid_math_bits_deBruijn32tab), ("math/bits.deBruijn64tab", laid_math_bits_deBruijn64tab), ("internal/strconv.uint64pow10", laid_internal_strconv_uint64pow10)], narrowed := true }
def CubeTimesUptoSaid : Prop := cubeTimesUptoRow.holds Tryz.pinned (OpenSpec.upto cubeTimesSpec)

/-- 'stratumlaw13.CubeAsks', WHERE WHAT IT READS IS OF BULK AT MOST 1048576: true; the input reads as it did. -/
def cubeAsksUptoRow : OpenClaim := { program := "ytgjdjdjhoipfmaagreatdoor", sum := "58897805a7c102c1b7b32075a998342ced3a37c1f4a9230acd51bdd789a6abe1", func := "stratum/stratumlaw13.CubeAsks", spec := "cubeAsks", inPlace := ["slices.overlaps[stratum/api.Entry]"], unfollowed := true, recurses := true, named := ["internal/strconv.uint64pow10", "math/bits.deBruijn32tab", "math/bits.deBruijn64tab"], apart := false, laid := [("math/bits.deBruijn32tab", laid_math_bits_deBruijn32tab), ("math/bits.deBruijn64tab", laid_math_bits_deBruijn64tab), ("internal/strconv.uint64pow10", laid_internal_strconv_uint64pow10)], narrowed := true }
def CubeAsksUptoSaid : Prop := cubeAsksUptoRow.holds Tryz.pinned (OpenSpec.upto cubeAsksSpec)

/-- 'stratumlaw13.CubeCuts', WHERE WHAT IT READS IS OF BULK AT MOST 1048576: true; the input reads as it did. -/
def cubeCutsUptoRow : OpenClaim := { program := "ytgjdjdjhoipfmaagreatdoor", sum := "58897805a7c102c1b7b32075a998342ced3a37c1f4a9230acd51bdd789a6abe1", func := "stratum/stratumlaw13.CubeCuts", spec := "cubeCuts", inPlace := ["slices.overlaps[stratum/api.Entry]"], unfollowed := true, recurses := true, named := ["internal/strconv.uint64pow10", "math/bits.deBruijn32tab", "math/bits.deBruijn64tab"], apart := false, laid := [("math/bits.deBruijn32tab", laid_math_bits_deBruijn32tab), ("math/bits.deBruijn64tab", laid_math_bits_deBruijn64tab), ("internal/strconv.uint64pow10", laid_internal_strconv_uint64pow10)], narrowed := true }
def CubeCutsUptoSaid : Prop := cubeCutsUptoRow.holds Tryz.pinned (OpenSpec.upto cubeCutsSpec)

/-- 'stratumlaw13.CubeDoes', WHERE WHAT IT READS IS OF BULK AT MOST 1048576: true; the input reads as it did. -/
def cubeDoesUptoRow : OpenClaim := { program := "ytgjdjdjhoipfmaagreatdoor", sum := "58897805a7c102c1b7b32075a998342ced3a37c1f4a9230acd51bdd789a6abe1", func := "stratum/stratumlaw13.CubeDoes", spec := "cubeDoes", inPlace := ["slices.overlaps[stratum/api.Entry]"], unfollowed := true, recurses := true, named := ["internal/strconv.uint64pow10", "math/bits.deBruijn32tab", "math/bits.deBruijn64tab"], apart := false, laid := [("math/bits.deBruijn32tab", laid_math_bits_deBruijn32tab), ("math/bits.deBruijn64tab", laid_math_bits_deBruijn64tab), ("internal/strconv.uint64pow10", laid_internal_strconv_uint64pow10)], narrowed := true }
def CubeDoesUptoSaid : Prop := cubeDoesUptoRow.holds Tryz.pinned (OpenSpec.upto cubeDoesSpec)

/-- 'stratumlaw13.CubeMoves', WHERE WHAT IT READS IS OF BULK AT MOST 1048576: true; the input reads as it did. -/
def cubeMovesUptoRow : OpenClaim := { program := "ytgjdjdjhoipfmaagreatdoor", sum := "58897805a7c102c1b7b32075a998342ced3a37c1f4a9230acd51bdd789a6abe1", func := "stratum/stratumlaw13.CubeMoves", spec := "cubeMoves", inPlace := ["slices.overlaps[stratum/api.Entry]"], unfollowed := true, recurses := true, named := ["internal/strconv.uint64pow10", "math/bits.deBruijn32tab", "math/bits.deBruijn64tab"], apart := false, laid := [("math/bits.deBruijn32tab", laid_math_bits_deBruijn32tab), ("math/bits.deBruijn64tab", laid_math_bits_deBruijn64tab), ("internal/strconv.uint64pow10", laid_internal_strconv_uint64pow10)], narrowed := true }
def CubeMovesUptoSaid : Prop := cubeMovesUptoRow.holds Tryz.pinned (OpenSpec.upto cubeMovesSpec)

/-- 'stratumlaw13.CubeRefuses', WHERE WHAT IT READS IS OF BULK AT MOST 1048576: true; the input reads as it did. -/
def cubeRefusesUptoRow : OpenClaim := { program := "ytgjdjdjhoipfmaagreatdoor", sum := "58897805a7c102c1b7b32075a998342ced3a37c1f4a9230acd51bdd789a6abe1", func := "stratum/stratumlaw13.CubeRefuses", spec := "cubeRefuses", inPlace := ["slices.overlaps[stratum/api.Entry]"], unfollowed := true, recurses := true, named := ["internal/strconv.uint64pow10", "math/bits.deBruijn32tab", "math/bits.deBruijn64tab"], apart := false, laid := [("math/bits.deBruijn32tab", laid_math_bits_deBruijn32tab), ("math/bits.deBruijn64tab", laid_math_bits_deBruijn64tab), ("internal/strconv.uint64pow10", laid_internal_strconv_uint64pow10)], narrowed := true }
def CubeRefusesUptoSaid : Prop := cubeRefusesUptoRow.holds Tryz.pinned (OpenSpec.upto cubeRefusesSpec)

end Rows
end Go.Proofs.YtgjdjdjhoipfmaaGreatDoor
