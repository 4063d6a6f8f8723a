/-
  NARROWER THAN 'FOR EVERY INPUT', by the rows' own cells (each row's printed sentence says how): PartOnce: laid · PartWaits: laid · PartAborts: laid · PartAgain: laid · PartLays: laid · PartTakes: laid · PartDoes: laid.
  DERIVED. THE GIVEN ROWS OF THIS SEAT. 7 by the template 'for every input the law returns true; each argument reads behind the call as it read before'; 0 by the template 'total and deterministic' (their statements: YtgcmbkoejjcjlaaGreatDoorTotals.lean).
  GIVEN WITH THE SEED: the statements are not yours to turn. If you find one false, say at which input.
  Laid BY PROGRAM, IN A SANDBOX (cutbox-rows.mjs): the forced cells as the released guide's own fill.sh prints them over the translation abf4a7af79b0e651… (all of the seat's roots in one cut). By AI agents, Wed Nov 11 2026. No macro, syntax, notation, axiom, sorry.
-/
import Derived.Test.YtgcmbkoejjcjlaaGreatDoorChecked
import GoSem.Claim
import GoSem.ClaimJoined
import GoSem.ClaimMapViews
import Derived.JoinedTies
import Derived.KernelRfl
namespace Go.Proofs.YtgcmbkoejjcjlaaGreatDoor
/- THE CELL 'sum', in the pinned program and in every row, IS THE sha256 OF THE DUMP (.gsa) THAT YtgcmbkoejjcjlaaGreatDoorProg.lean LOADS. Nothing in Lean hashes anything: it is a label: what it is worth is what the hold of that sum in a sandbox is worth. -/
noncomputable def Tryz.pinned : Pinned := { name := "ytgcmbkoejjcjlaagreatdoor", sum := "abf4a7af79b0e651d6bfa16aade462bbc172007ab1063afda6fe77815b116f75", checked := Tryz.checked }
namespace Rows
def none {H : Type} : Left H := { results := [], args := [] }

/- WHAT THE LISTED PACKAGE-LEVEL VARIABLES READ AS WHEN THE CALL BEGINS. Each datum BY PROGRAM (the guide's laid-datum.mjs) off the statement by which the dump's own 'gosem.cut.vars' lays the variable. In a bare row this is a premise. The card (YtgcmbkoejjcjlaaGreatDoorCards.lean) ties it to the program's text. -/
def laid_math_bits_deBruijn32tab {H : Type} : DataW H := .agg [.lit (.int .u8 0), .lit (.int .u8 1), .lit (.int .u8 28), .lit (.int .u8 2), .lit (.int .u8 29), .lit (.int .u8 14), .lit (.int .u8 24), .lit (.int .u8 3), .lit (.int .u8 30), .lit (.int .u8 22), .lit (.int .u8 20), .lit (.int .u8 15), .lit (.int .u8 25), .lit (.int .u8 17), .lit (.int .u8 4), .lit (.int .u8 8), .lit (.int .u8 31), .lit (.int .u8 27), .lit (.int .u8 13), .lit (.int .u8 23), .lit (.int .u8 21), .lit (.int .u8 19), .lit (.int .u8 16), .lit (.int .u8 7), .lit (.int .u8 26), .lit (.int .u8 12), .lit (.int .u8 18), .lit (.int .u8 6), .lit (.int .u8 11), .lit (.int .u8 5), .lit (.int .u8 10), .lit (.int .u8 9)]
def laid_math_bits_deBruijn64tab {H : Type} : DataW H := .agg [.lit (.int .u8 0), .lit (.int .u8 1), .lit (.int .u8 56), .lit (.int .u8 2), .lit (.int .u8 57), .lit (.int .u8 49), .lit (.int .u8 28), .lit (.int .u8 3), .lit (.int .u8 61), .lit (.int .u8 58), .lit (.int .u8 42), .lit (.int .u8 50), .lit (.int .u8 38), .lit (.int .u8 29), .lit (.int .u8 17), .lit (.int .u8 4), .lit (.int .u8 62), .lit (.int .u8 47), .lit (.int .u8 59), .lit (.int .u8 36), .lit (.int .u8 45), .lit (.int .u8 43), .lit (.int .u8 51), .lit (.int .u8 22), .lit (.int .u8 53), .lit (.int .u8 39), .lit (.int .u8 33), .lit (.int .u8 30), .lit (.int .u8 24), .lit (.int .u8 18), .lit (.int .u8 12), .lit (.int .u8 5), .lit (.int .u8 63), .lit (.int .u8 55), .lit (.int .u8 48), .lit (.int .u8 27), .lit (.int .u8 60), .lit (.int .u8 41), .lit (.int .u8 37), .lit (.int .u8 16), .lit (.int .u8 46), .lit (.int .u8 35), .lit (.int .u8 44), .lit (.int .u8 21), .lit (.int .u8 52), .lit (.int .u8 32), .lit (.int .u8 23), .lit (.int .u8 11), .lit (.int .u8 54), .lit (.int .u8 26), .lit (.int .u8 40), .lit (.int .u8 15), .lit (.int .u8 34), .lit (.int .u8 20), .lit (.int .u8 31), .lit (.int .u8 10), .lit (.int .u8 25), .lit (.int .u8 14), .lit (.int .u8 19), .lit (.int .u8 9), .lit (.int .u8 13), .lit (.int .u8 8), .lit (.int .u8 7), .lit (.int .u8 6)]
def laid_internal_strconv_uint64pow10 {H : Type} : DataW H := .agg [.lit (.int .u64 1), .lit (.int .u64 10), .lit (.int .u64 100), .lit (.int .u64 1000), .lit (.int .u64 10000), .lit (.int .u64 100000), .lit (.int .u64 1000000), .lit (.int .u64 10000000), .lit (.int .u64 100000000), .lit (.int .u64 1000000000), .lit (.int .u64 10000000000), .lit (.int .u64 100000000000), .lit (.int .u64 1000000000000), .lit (.int .u64 10000000000000), .lit (.int .u64 100000000000000), .lit (.int .u64 1000000000000000), .lit (.int .u64 10000000000000000), .lit (.int .u64 100000000000000000), .lit (.int .u64 1000000000000000000), .lit (.int .u64 10000000000000000000)]

/-- 'stratumlaw14.PartOnce': WHATEVER THE INPUT: true; the input reads as it did. -/
def partOnceSpec : ChangeSpec := { name := "partOnce", fn := fun _ => fun
  | [d1, d2] => { results := [.lit (.bool true)], args := [d1, d2] }
  | _ => none }
def partOnceRow : OpenClaim := { program := "ytgcmbkoejjcjlaagreatdoor", sum := "abf4a7af79b0e651d6bfa16aade462bbc172007ab1063afda6fe77815b116f75", func := "stratum/stratumlaw14.PartOnce", spec := "partOnce", inPlace := ["slices.overlaps[stratum/api.Entry]"], unfollowed := true, recurses := true, named := ["internal/strconv.uint64pow10", "math/bits.deBruijn32tab", "math/bits.deBruijn64tab"], apart := false, laid := [("math/bits.deBruijn32tab", laid_math_bits_deBruijn32tab), ("math/bits.deBruijn64tab", laid_math_bits_deBruijn64tab), ("internal/strconv.uint64pow10", laid_internal_strconv_uint64pow10)] }
def PartOnceSaid : Prop := partOnceRow.holds Tryz.pinned (OpenSpec.ofChange partOnceSpec)

/-- ITS FALSE NEIGHBOUR: 'it returns false'. Refute it at one input. -/
def partOnceWrong : ChangeSpec := { name := "partOnce", fn := fun _ => fun
  | [d1, d2] => { results := [.lit (.bool false)], args := [d1, d2] }
  | _ => none }
def PartOnceWrongFalsely : Prop := partOnceRow.holds Tryz.pinned (OpenSpec.ofChange partOnceWrong)

/-- 'stratumlaw14.PartWaits': WHATEVER THE INPUT: true; the input reads as it did. -/
def partWaitsSpec : ChangeSpec := { name := "partWaits", fn := fun _ => fun
  | [d1, d2, d3, d4, d5] => { results := [.lit (.bool true)], args := [d1, d2, d3, d4, d5] }
  | _ => none }
def partWaitsRow : OpenClaim := { program := "ytgcmbkoejjcjlaagreatdoor", sum := "abf4a7af79b0e651d6bfa16aade462bbc172007ab1063afda6fe77815b116f75", func := "stratum/stratumlaw14.PartWaits", spec := "partWaits", inPlace := ["slices.overlaps[stratum/api.Entry]"], unfollowed := true, recurses := true, named := ["internal/strconv.uint64pow10", "math/bits.deBruijn32tab", "math/bits.deBruijn64tab"], apart := false, laid := [("math/bits.deBruijn32tab", laid_math_bits_deBruijn32tab), ("math/bits.deBruijn64tab", laid_math_bits_deBruijn64tab), ("internal/strconv.uint64pow10", laid_internal_strconv_uint64pow10)] }
def PartWaitsSaid : Prop := partWaitsRow.holds Tryz.pinned (OpenSpec.ofChange partWaitsSpec)

/-- ITS FALSE NEIGHBOUR: 'it returns false'. Refute it at one input. -/
def partWaitsWrong : ChangeSpec := { name := "partWaits", fn := fun _ => fun
  | [d1, d2, d3, d4, d5] => { results := [.lit (.bool false)], args := [d1, d2, d3, d4, d5] }
  | _ => none }
def PartWaitsWrongFalsely : Prop := partWaitsRow.holds Tryz.pinned (OpenSpec.ofChange partWaitsWrong)

/-- 'stratumlaw14.PartAborts': WHATEVER THE INPUT: true; the input reads as it did. -/
def partAbortsSpec : ChangeSpec := { name := "partAborts", fn := fun _ => fun
  | [d1, d2, d3, d4, d5, d6, d7] => { results := [.lit (.bool true)], args := [d1, d2, d3, d4, d5, d6, d7] }
  | _ => none }
def partAbortsRow : OpenClaim := { program := "ytgcmbkoejjcjlaagreatdoor", sum := "abf4a7af79b0e651d6bfa16aade462bbc172007ab1063afda6fe77815b116f75", func := "stratum/stratumlaw14.PartAborts", spec := "partAborts", inPlace := ["slices.overlaps[stratum/api.Entry]"], unfollowed := true, recurses := true, named := ["internal/strconv.uint64pow10", "math/bits.deBruijn32tab", "math/bits.deBruijn64tab"], apart := false, laid := [("math/bits.deBruijn32tab", laid_math_bits_deBruijn32tab), ("math/bits.deBruijn64tab", laid_math_bits_deBruijn64tab), ("internal/strconv.uint64pow10", laid_internal_strconv_uint64pow10)] }
def PartAbortsSaid : Prop := partAbortsRow.holds Tryz.pinned (OpenSpec.ofChange partAbortsSpec)

/-- ITS FALSE NEIGHBOUR: 'it returns false'. Refute it at one input. -/
def partAbortsWrong : ChangeSpec := { name := "partAborts", fn := fun _ => fun
  | [d1, d2, d3, d4, d5, d6, d7] => { results := [.lit (.bool false)], args := [d1, d2, d3, d4, d5, d6, d7] }
  | _ => none }
def PartAbortsWrongFalsely : Prop := partAbortsRow.holds Tryz.pinned (OpenSpec.ofChange partAbortsWrong)

/-- 'stratumlaw14.PartAgain': WHATEVER THE INPUT: true; the input reads as it did. -/
def partAgainSpec : ChangeSpec := { name := "partAgain", fn := fun _ => fun
  | [d1, d2, d3, d4, d5] => { results := [.lit (.bool true)], args := [d1, d2, d3, d4, d5] }
  | _ => none }
def partAgainRow : OpenClaim := { program := "ytgcmbkoejjcjlaagreatdoor", sum := "abf4a7af79b0e651d6bfa16aade462bbc172007ab1063afda6fe77815b116f75", func := "stratum/stratumlaw14.PartAgain", spec := "partAgain", inPlace := ["slices.overlaps[stratum/api.Entry]"], unfollowed := true, recurses := true, named := ["internal/strconv.uint64pow10", "math/bits.deBruijn32tab", "math/bits.deBruijn64tab"], apart := false, laid := [("math/bits.deBruijn32tab", laid_math_bits_deBruijn32tab), ("math/bits.deBruijn64tab", laid_math_bits_deBruijn64tab), ("internal/strconv.uint64pow10", laid_internal_strconv_uint64pow10)] }
def PartAgainSaid : Prop := partAgainRow.holds Tryz.pinned (OpenSpec.ofChange partAgainSpec)

/-- ITS FALSE NEIGHBOUR: 'it returns false'. Refute it at one input. -/
def partAgainWrong : ChangeSpec := { name := "partAgain", fn := fun _ => fun
  | [d1, d2, d3, d4, d5] => { results := [.lit (.bool false)], args := [d1, d2, d3, d4, d5] }
  | _ => none }
def PartAgainWrongFalsely : Prop := partAgainRow.holds Tryz.pinned (OpenSpec.ofChange partAgainWrong)

/-- 'stratumlaw14.PartLays': WHATEVER THE INPUT: true; the input reads as it did. -/
def partLaysSpec : ChangeSpec := { name := "partLays", fn := fun _ => fun
  | [d1, d2, d3, d4, d5] => { results := [.lit (.bool true)], args := [d1, d2, d3, d4, d5] }
  | _ => none }
def partLaysRow : OpenClaim := { program := "ytgcmbkoejjcjlaagreatdoor", sum := "abf4a7af79b0e651d6bfa16aade462bbc172007ab1063afda6fe77815b116f75", func := "stratum/stratumlaw14.PartLays", spec := "partLays", inPlace := ["slices.overlaps[stratum/api.Entry]"], unfollowed := true, recurses := true, named := ["internal/strconv.uint64pow10", "math/bits.deBruijn32tab", "math/bits.deBruijn64tab"], apart := false, laid := [("math/bits.deBruijn32tab", laid_math_bits_deBruijn32tab), ("math/bits.deBruijn64tab", laid_math_bits_deBruijn64tab), ("internal/strconv.uint64pow10", laid_internal_strconv_uint64pow10)] }
def PartLaysSaid : Prop := partLaysRow.holds Tryz.pinned (OpenSpec.ofChange partLaysSpec)

/-- ITS FALSE NEIGHBOUR: 'it returns false'. Refute it at one input. -/
def partLaysWrong : ChangeSpec := { name := "partLays", fn := fun _ => fun
  | [d1, d2, d3, d4, d5] => { results := [.lit (.bool false)], args := [d1, d2, d3, d4, d5] }
  | _ => none }
def PartLaysWrongFalsely : Prop := partLaysRow.holds Tryz.pinned (OpenSpec.ofChange partLaysWrong)

/-- 'stratumlaw14.PartTakes': WHATEVER THE INPUT: true; the input reads as it did. -/
def partTakesSpec : ChangeSpec := { name := "partTakes", fn := fun _ => fun
  | [d1, d2, d3, d4] => { results := [.lit (.bool true)], args := [d1, d2, d3, d4] }
  | _ => none }
def partTakesRow : OpenClaim := { program := "ytgcmbkoejjcjlaagreatdoor", sum := "abf4a7af79b0e651d6bfa16aade462bbc172007ab1063afda6fe77815b116f75", func := "stratum/stratumlaw14.PartTakes", spec := "partTakes", inPlace := ["slices.overlaps[stratum/api.Entry]"], unfollowed := true, recurses := true, named := ["internal/strconv.uint64pow10", "math/bits.deBruijn32tab", "math/bits.deBruijn64tab"], apart := false, laid := [("math/bits.deBruijn32tab", laid_math_bits_deBruijn32tab), ("math/bits.deBruijn64tab", laid_math_bits_deBruijn64tab), ("internal/strconv.uint64pow10", laid_internal_strconv_uint64pow10)] }
def PartTakesSaid : Prop := partTakesRow.holds Tryz.pinned (OpenSpec.ofChange partTakesSpec)

/-- ITS FALSE NEIGHBOUR: 'it returns false'. Refute it at one input. -/
def partTakesWrong : ChangeSpec := { name := "partTakes", fn := fun _ => fun
  | [d1, d2, d3, d4] => { results := [.lit (.bool false)], args := [d1, d2, d3, d4] }
  | _ => none }
def PartTakesWrongFalsely : Prop := partTakesRow.holds Tryz.pinned (OpenSpec.ofChange partTakesWrong)

/-- 'stratumlaw14.PartDoes': WHATEVER THE INPUT: true; the input reads as it did. -/
def partDoesSpec : ChangeSpec := { name := "partDoes", fn := fun _ => fun
  | [d1, d2, d3, d4, d5, d6] => { results := [.lit (.bool true)], args := [d1, d2, d3, d4, d5, d6] }
  | _ => none }
def partDoesRow : OpenClaim := { program := "ytgcmbkoejjcjlaagreatdoor", sum := "abf4a7af79b0e651d6bfa16aade462bbc172007ab1063afda6fe77815b116f75", func := "stratum/stratumlaw14.PartDoes", spec := "partDoes", inPlace := ["slices.overlaps[stratum/api.Entry]"], unfollowed := true, recurses := true, named := ["internal/strconv.uint64pow10", "math/bits.deBruijn32tab", "math/bits.deBruijn64tab"], apart := false, laid := [("math/bits.deBruijn32tab", laid_math_bits_deBruijn32tab), ("math/bits.deBruijn64tab", laid_math_bits_deBruijn64tab), ("internal/strconv.uint64pow10", laid_internal_strconv_uint64pow10)] }
def PartDoesSaid : Prop := partDoesRow.holds Tryz.pinned (OpenSpec.ofChange partDoesSpec)

/-- ITS FALSE NEIGHBOUR: 'it returns false'. Refute it at one input. -/
def partDoesWrong : ChangeSpec := { name := "partDoes", fn := fun _ => fun
  | [d1, d2, d3, d4, d5, d6] => { results := [.lit (.bool false)], args := [d1, d2, d3, d4, d5, d6] }
  | _ => none }
def PartDoesWrongFalsely : Prop := partDoesRow.holds Tryz.pinned (OpenSpec.ofChange partDoesWrong)

/- THE SECOND FORM. 'bulk': how many values and letters a reading holds, each counted each time it is reached (what is shared counts as often as it is met; a slice's spare places count too). A statement '..UptoSaid' is the law's where the arguments, and the package variables that the reading takes, are together of bulk at most 1048576: NARROWER than '..Said'. Prove '..Said' where nothing that the law and all that it calls make is longer than what came in: it says more and counts as full. Else prove '..UptoSaid'. A law counts once. -/
mutual
def uptoBulk {H : Type} : DataW H → Nat
  | .lit (.string bytes) => bytes.length + 1
  | .lit _ => 1
  | .nil => 1
  | .ptr d => uptoBulk d + 1
  | .slice elems spare => uptoBulkAll elems + uptoBulkAll spare + 1
  | .agg parts => uptoBulkAll parts + 1
  | .iface _ d => uptoBulk d + 1
  | .map entries => uptoBulkEntries entries + 1
  | .held _ => 1
def uptoBulkAll {H : Type} : List (DataW H) → Nat
  | [] => 0
  | d :: r => uptoBulk d + uptoBulkAll r
def uptoBulkEntries {H : Type} : List (Lit × DataW H) → Nat
  | [] => 0
  | x :: r => uptoBulkEntry x + uptoBulkEntries r
def uptoBulkEntry {H : Type} : Lit × DataW H → Nat
  | (.string bytes, d) => bytes.length + uptoBulk d + 1
  | (_, d) => uptoBulk d + 1
 end
def uptoSmall : (H : Type) → List (DataW H) → Bool := fun _ ds => decide (uptoBulkAll ds ≤ 1048576)
def OpenSpec.upto (s : _root_.Go.ChangeSpec) : _root_.Go.OpenSpec := { _root_.Go.OpenSpec.ofChange s with cond := some uptoSmall }

/-- 'stratumlaw14.PartOnce', WHERE WHAT IT READS IS OF BULK AT MOST 1048576: true; the input reads as it did. -/
def partOnceUptoRow : OpenClaim := { program := "ytgcmbkoejjcjlaagreatdoor", sum := "abf4a7af79b0e651d6bfa16aade462bbc172007ab1063afda6fe77815b116f75", func := "stratum/stratumlaw14.PartOnce", spec := "partOnce", inPlace := ["slices.overlaps[stratum/api.Entry]"], unfollowed := true, recurses := true, named := ["internal/strconv.uint64pow10", "math/bits.deBruijn32tab", "math/bits.deBruijn64tab"], apart := false, laid := [("math/bits.deBruijn32tab", laid_math_bits_deBruijn32tab), ("math/bits.deBruijn64tab", laid_math_bits_deBruijn64tab), ("internal/strconv.uint64pow10", laid_internal_strconv_uint64pow10)], narrowed := true }
def PartOnceUptoSaid : Prop := partOnceUptoRow.holds Tryz.pinned (OpenSpec.upto partOnceSpec)

/-- 'stratumlaw14.PartWaits', WHERE WHAT IT READS IS OF BULK AT MOST 1048576: true; the input reads as it did. -/
def partWaitsUptoRow : OpenClaim := { program := "ytgcmbkoejjcjlaagreatdoor", sum := "abf4a7af79b0e651d6bfa16aade462bbc172007ab1063afda6fe77815b116f75", func := "stratum/stratumlaw14.PartWaits", spec := "partWaits", inPlace := ["slices.overlaps[stratum/api.Entry]"], unfollowed := true, recurses := true, named := ["internal/strconv.uint64pow10", "math/bits.deBruijn32tab", "math/bits.deBruijn64tab"], apart := false, laid := [("math/bits.deBruijn32tab", laid_math_bits_deBruijn32tab), ("math/bits.deBruijn64tab", laid_math_bits_deBruijn64tab), ("internal/strconv.uint64pow10", laid_internal_strconv_uint64pow10)], narrowed := true }
def PartWaitsUptoSaid : Prop := partWaitsUptoRow.holds Tryz.pinned (OpenSpec.upto partWaitsSpec)

/-- 'stratumlaw14.PartAborts', WHERE WHAT IT READS IS OF BULK AT MOST 1048576: true; the input reads as it did. -/
def partAbortsUptoRow : OpenClaim := { program := "ytgcmbkoejjcjlaagreatdoor", sum := "abf4a7af79b0e651d6bfa16aade462bbc172007ab1063afda6fe77815b116f75", func := "stratum/stratumlaw14.PartAborts", spec := "partAborts", inPlace := ["slices.overlaps[stratum/api.Entry]"], unfollowed := true, recurses := true, named := ["internal/strconv.uint64pow10", "math/bits.deBruijn32tab", "math/bits.deBruijn64tab"], apart := false, laid := [("math/bits.deBruijn32tab", laid_math_bits_deBruijn32tab), ("math/bits.deBruijn64tab", laid_math_bits_deBruijn64tab), ("internal/strconv.uint64pow10", laid_internal_strconv_uint64pow10)], narrowed := true }
def PartAbortsUptoSaid : Prop := partAbortsUptoRow.holds Tryz.pinned (OpenSpec.upto partAbortsSpec)

/-- 'stratumlaw14.PartAgain', WHERE WHAT IT READS IS OF BULK AT MOST 1048576: true; the input reads as it did. -/
def partAgainUptoRow : OpenClaim := { program := "ytgcmbkoejjcjlaagreatdoor", sum := "abf4a7af79b0e651d6bfa16aade462bbc172007ab1063afda6fe77815b116f75", func := "stratum/stratumlaw14.PartAgain", spec := "partAgain", inPlace := ["slices.overlaps[stratum/api.Entry]"], unfollowed := true, recurses := true, named := ["internal/strconv.uint64pow10", "math/bits.deBruijn32tab", "math/bits.deBruijn64tab"], apart := false, laid := [("math/bits.deBruijn32tab", laid_math_bits_deBruijn32tab), ("math/bits.deBruijn64tab", laid_math_bits_deBruijn64tab), ("internal/strconv.uint64pow10", laid_internal_strconv_uint64pow10)], narrowed := true }
def PartAgainUptoSaid : Prop := partAgainUptoRow.holds Tryz.pinned (OpenSpec.upto partAgainSpec)

/-- 'stratumlaw14.PartLays', WHERE WHAT IT READS IS OF BULK AT MOST 1048576: true; the input reads as it did. -/
def partLaysUptoRow : OpenClaim := { program := "ytgcmbkoejjcjlaagreatdoor", sum := "abf4a7af79b0e651d6bfa16aade462bbc172007ab1063afda6fe77815b116f75", func := "stratum/stratumlaw14.PartLays", spec := "partLays", inPlace := ["slices.overlaps[stratum/api.Entry]"], unfollowed := true, recurses := true, named := ["internal/strconv.uint64pow10", "math/bits.deBruijn32tab", "math/bits.deBruijn64tab"], apart := false, laid := [("math/bits.deBruijn32tab", laid_math_bits_deBruijn32tab), ("math/bits.deBruijn64tab", laid_math_bits_deBruijn64tab), ("internal/strconv.uint64pow10", laid_internal_strconv_uint64pow10)], narrowed := true }
def PartLaysUptoSaid : Prop := partLaysUptoRow.holds Tryz.pinned (OpenSpec.upto partLaysSpec)

/-- 'stratumlaw14.PartTakes', WHERE WHAT IT READS IS OF BULK AT MOST 1048576: true; the input reads as it did. -/
def partTakesUptoRow : OpenClaim := { program := "ytgcmbkoejjcjlaagreatdoor", sum := "abf4a7af79b0e651d6bfa16aade462bbc172007ab1063afda6fe77815b116f75", func := "stratum/stratumlaw14.PartTakes", spec := "partTakes", inPlace := ["slices.overlaps[stratum/api.Entry]"], unfollowed := true, recurses := true, named := ["internal/strconv.uint64pow10", "math/bits.deBruijn32tab", "math/bits.deBruijn64tab"], apart := false, laid := [("math/bits.deBruijn32tab", laid_math_bits_deBruijn32tab), ("math/bits.deBruijn64tab", laid_math_bits_deBruijn64tab), ("internal/strconv.uint64pow10", laid_internal_strconv_uint64pow10)], narrowed := true }
def PartTakesUptoSaid : Prop := partTakesUptoRow.holds Tryz.pinned (OpenSpec.upto partTakesSpec)

/-- 'stratumlaw14.PartDoes', WHERE WHAT IT READS IS OF BULK AT MOST 1048576: true; the input reads as it did. -/
def partDoesUptoRow : OpenClaim := { program := "ytgcmbkoejjcjlaagreatdoor", sum := "abf4a7af79b0e651d6bfa16aade462bbc172007ab1063afda6fe77815b116f75", func := "stratum/stratumlaw14.PartDoes", spec := "partDoes", inPlace := ["slices.overlaps[stratum/api.Entry]"], unfollowed := true, recurses := true, named := ["internal/strconv.uint64pow10", "math/bits.deBruijn32tab", "math/bits.deBruijn64tab"], apart := false, laid := [("math/bits.deBruijn32tab", laid_math_bits_deBruijn32tab), ("math/bits.deBruijn64tab", laid_math_bits_deBruijn64tab), ("internal/strconv.uint64pow10", laid_internal_strconv_uint64pow10)], narrowed := true }
def PartDoesUptoSaid : Prop := partDoesUptoRow.holds Tryz.pinned (OpenSpec.upto partDoesSpec)

end Rows
end Go.Proofs.YtgcmbkoejjcjlaaGreatDoor
