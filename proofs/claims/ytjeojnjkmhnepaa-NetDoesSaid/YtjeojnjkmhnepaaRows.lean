/-
  No cell of these rows narrows 'for every input' (looked for: loops, veiled, ifaces, maps, wideKeys, modest, calm, conditions, laid).
  DERIVED. THE GIVEN ROWS OF THIS SEAT. 11 by the template 'for every input the law returns true; each argument reads behind the call as it read before'; 0 by the template 'total and deterministic' (their statements: YtjeojnjkmhnepaaTotals.lean).
  GIVEN WITH THE SEED: the statements are not yours to turn. If you find one false, say at which input.
  Laid BY PROGRAM, IN A SANDBOX (cutbox-rows.mjs): the forced cells as the released guide's own fill.sh prints them over the translation fbd1410fce8b5c7b… (all of the seat's roots in one cut). By AI agents, Wed Nov 11 2026. No macro, syntax, notation, axiom, sorry.
-/
import Derived.Test.YtjeojnjkmhnepaaChecked
import GoSem.Claim
import GoSem.ClaimJoined
import GoSem.ClaimMapViews
import Derived.JoinedTies
import Derived.KernelRfl
namespace Go.Proofs.Ytjeojnjkmhnepaa
/- THE CELL 'sum', in the pinned program and in every row, IS THE sha256 OF THE DUMP (.gsa) THAT YtjeojnjkmhnepaaProg.lean LOADS. Nothing in Lean hashes anything: it is a label: what it is worth is what the hold of that sum in a sandbox is worth. -/
noncomputable def Try.pinned : Pinned := { name := "ytjeojnjkmhnepaa", sum := "fbd1410fce8b5c7bfe26d3f03b853798ef73ae5509890fc201f45b39ac2aa3d4", checked := Try.checked }
namespace Rows
def none {H : Type} : Left H := { results := [], args := [] }

/-- 'stratumlaw05.DiceAll': WHATEVER THE INPUT: true; the input reads as it did. -/
def diceAllSpec : ChangeSpec := { name := "diceAll", fn := fun _ => fun
  | [d1, d2, d3, d4] => { results := [.lit (.bool true)], args := [d1, d2, d3, d4] }
  | _ => none }
def diceAllRow : OpenClaim := { program := "ytjeojnjkmhnepaa", sum := "fbd1410fce8b5c7bfe26d3f03b853798ef73ae5509890fc201f45b39ac2aa3d4", func := "stratum/stratumlaw05.DiceAll", spec := "diceAll", unfollowed := true, recurses := true, apart := false }
def DiceAllSaid : Prop := diceAllRow.holds Try.pinned (OpenSpec.ofChange diceAllSpec)

/-- ITS FALSE NEIGHBOUR: 'it returns false'. Refute it at one input. -/
def diceAllWrong : ChangeSpec := { name := "diceAll", fn := fun _ => fun
  | [d1, d2, d3, d4] => { results := [.lit (.bool false)], args := [d1, d2, d3, d4] }
  | _ => none }
def DiceAllWrongFalsely : Prop := diceAllRow.holds Try.pinned (OpenSpec.ofChange diceAllWrong)

/-- 'stratumlaw05.DiceSounds': WHATEVER THE INPUT: true; the input reads as it did. -/
def diceSoundsSpec : ChangeSpec := { name := "diceSounds", fn := fun _ => fun
  | [d1, d2, d3, d4, d5, d6, d7] => { results := [.lit (.bool true)], args := [d1, d2, d3, d4, d5, d6, d7] }
  | _ => none }
def diceSoundsRow : OpenClaim := { program := "ytjeojnjkmhnepaa", sum := "fbd1410fce8b5c7bfe26d3f03b853798ef73ae5509890fc201f45b39ac2aa3d4", func := "stratum/stratumlaw05.DiceSounds", spec := "diceSounds", unfollowed := true, recurses := true, apart := false }
def DiceSoundsSaid : Prop := diceSoundsRow.holds Try.pinned (OpenSpec.ofChange diceSoundsSpec)

/-- ITS FALSE NEIGHBOUR: 'it returns false'. Refute it at one input. -/
def diceSoundsWrong : ChangeSpec := { name := "diceSounds", fn := fun _ => fun
  | [d1, d2, d3, d4, d5, d6, d7] => { results := [.lit (.bool false)], args := [d1, d2, d3, d4, d5, d6, d7] }
  | _ => none }
def DiceSoundsWrongFalsely : Prop := diceSoundsRow.holds Try.pinned (OpenSpec.ofChange diceSoundsWrong)

/-- 'stratumlaw05.DiceMeets': WHATEVER THE INPUT: true; the input reads as it did. -/
def diceMeetsSpec : ChangeSpec := { name := "diceMeets", fn := fun _ => fun
  | [d1, d2, d3, d4, d5, d6, d7, d8] => { results := [.lit (.bool true)], args := [d1, d2, d3, d4, d5, d6, d7, d8] }
  | _ => none }
def diceMeetsRow : OpenClaim := { program := "ytjeojnjkmhnepaa", sum := "fbd1410fce8b5c7bfe26d3f03b853798ef73ae5509890fc201f45b39ac2aa3d4", func := "stratum/stratumlaw05.DiceMeets", spec := "diceMeets", unfollowed := true, recurses := true, apart := false }
def DiceMeetsSaid : Prop := diceMeetsRow.holds Try.pinned (OpenSpec.ofChange diceMeetsSpec)

/-- ITS FALSE NEIGHBOUR: 'it returns false'. Refute it at one input. -/
def diceMeetsWrong : ChangeSpec := { name := "diceMeets", fn := fun _ => fun
  | [d1, d2, d3, d4, d5, d6, d7, d8] => { results := [.lit (.bool false)], args := [d1, d2, d3, d4, d5, d6, d7, d8] }
  | _ => none }
def DiceMeetsWrongFalsely : Prop := diceMeetsRow.holds Try.pinned (OpenSpec.ofChange diceMeetsWrong)

/-- 'stratumlaw05.DiceBoth': WHATEVER THE INPUT: true; the input reads as it did. -/
def diceBothSpec : ChangeSpec := { name := "diceBoth", fn := fun _ => fun
  | [d1, d2, d3, d4, d5, d6] => { results := [.lit (.bool true)], args := [d1, d2, d3, d4, d5, d6] }
  | _ => none }
def diceBothRow : OpenClaim := { program := "ytjeojnjkmhnepaa", sum := "fbd1410fce8b5c7bfe26d3f03b853798ef73ae5509890fc201f45b39ac2aa3d4", func := "stratum/stratumlaw05.DiceBoth", spec := "diceBoth", unfollowed := true, recurses := true, apart := false }
def DiceBothSaid : Prop := diceBothRow.holds Try.pinned (OpenSpec.ofChange diceBothSpec)

/-- ITS FALSE NEIGHBOUR: 'it returns false'. Refute it at one input. -/
def diceBothWrong : ChangeSpec := { name := "diceBoth", fn := fun _ => fun
  | [d1, d2, d3, d4, d5, d6] => { results := [.lit (.bool false)], args := [d1, d2, d3, d4, d5, d6] }
  | _ => none }
def DiceBothWrongFalsely : Prop := diceBothRow.holds Try.pinned (OpenSpec.ofChange diceBothWrong)

/-- 'stratumlaw05.DiceCuts': WHATEVER THE INPUT: true; the input reads as it did. -/
def diceCutsSpec : ChangeSpec := { name := "diceCuts", fn := fun _ => fun
  | [d1, d2, d3, d4, d5, d6] => { results := [.lit (.bool true)], args := [d1, d2, d3, d4, d5, d6] }
  | _ => none }
def diceCutsRow : OpenClaim := { program := "ytjeojnjkmhnepaa", sum := "fbd1410fce8b5c7bfe26d3f03b853798ef73ae5509890fc201f45b39ac2aa3d4", func := "stratum/stratumlaw05.DiceCuts", spec := "diceCuts", unfollowed := true, recurses := true, apart := false }
def DiceCutsSaid : Prop := diceCutsRow.holds Try.pinned (OpenSpec.ofChange diceCutsSpec)

/-- ITS FALSE NEIGHBOUR: 'it returns false'. Refute it at one input. -/
def diceCutsWrong : ChangeSpec := { name := "diceCuts", fn := fun _ => fun
  | [d1, d2, d3, d4, d5, d6] => { results := [.lit (.bool false)], args := [d1, d2, d3, d4, d5, d6] }
  | _ => none }
def DiceCutsWrongFalsely : Prop := diceCutsRow.holds Try.pinned (OpenSpec.ofChange diceCutsWrong)

/-- 'stratumlaw05.DiceParts': WHATEVER THE INPUT: true; the input reads as it did. -/
def dicePartsSpec : ChangeSpec := { name := "diceParts", fn := fun _ => fun
  | [d1, d2, d3, d4, d5] => { results := [.lit (.bool true)], args := [d1, d2, d3, d4, d5] }
  | _ => none }
def dicePartsRow : OpenClaim := { program := "ytjeojnjkmhnepaa", sum := "fbd1410fce8b5c7bfe26d3f03b853798ef73ae5509890fc201f45b39ac2aa3d4", func := "stratum/stratumlaw05.DiceParts", spec := "diceParts", unfollowed := true, recurses := true, apart := false }
def DicePartsSaid : Prop := dicePartsRow.holds Try.pinned (OpenSpec.ofChange dicePartsSpec)

/-- ITS FALSE NEIGHBOUR: 'it returns false'. Refute it at one input. -/
def dicePartsWrong : ChangeSpec := { name := "diceParts", fn := fun _ => fun
  | [d1, d2, d3, d4, d5] => { results := [.lit (.bool false)], args := [d1, d2, d3, d4, d5] }
  | _ => none }
def DicePartsWrongFalsely : Prop := dicePartsRow.holds Try.pinned (OpenSpec.ofChange dicePartsWrong)

/-- 'stratumlaw17.NetRoom': WHATEVER THE INPUT: true; the input reads as it did. -/
def netRoomSpec : ChangeSpec := { name := "netRoom", fn := fun _ => fun
  | [d1, d2] => { results := [.lit (.bool true)], args := [d1, d2] }
  | _ => none }
def netRoomRow : OpenClaim := { program := "ytjeojnjkmhnepaa", sum := "fbd1410fce8b5c7bfe26d3f03b853798ef73ae5509890fc201f45b39ac2aa3d4", func := "stratum/stratumlaw17.NetRoom", spec := "netRoom", inPlace := ["slices.overlaps[stratum/api.Mail]"], apart := false }
def NetRoomSaid : Prop := netRoomRow.holds Try.pinned (OpenSpec.ofChange netRoomSpec)

/-- ITS FALSE NEIGHBOUR: 'it returns false'. Refute it at one input. -/
def netRoomWrong : ChangeSpec := { name := "netRoom", fn := fun _ => fun
  | [d1, d2] => { results := [.lit (.bool false)], args := [d1, d2] }
  | _ => none }
def NetRoomWrongFalsely : Prop := netRoomRow.holds Try.pinned (OpenSpec.ofChange netRoomWrong)

/-- 'stratumlaw17.NetDoes': WHATEVER THE INPUT: true; the input reads as it did. -/
def netDoesSpec : ChangeSpec := { name := "netDoes", fn := fun _ => fun
  | [d] => { results := [.lit (.bool true)], args := [d] }
  | _ => none }
def netDoesRow : OpenClaim := { program := "ytjeojnjkmhnepaa", sum := "fbd1410fce8b5c7bfe26d3f03b853798ef73ae5509890fc201f45b39ac2aa3d4", func := "stratum/stratumlaw17.NetDoes", spec := "netDoes", inPlace := ["slices.overlaps[stratum/api.Mail]"], apart := false }
def NetDoesSaid : Prop := netDoesRow.holds Try.pinned (OpenSpec.ofChange netDoesSpec)

/-- ITS FALSE NEIGHBOUR: 'it returns false'. Refute it at one input. -/
def netDoesWrong : ChangeSpec := { name := "netDoes", fn := fun _ => fun
  | [d] => { results := [.lit (.bool false)], args := [d] }
  | _ => none }
def NetDoesWrongFalsely : Prop := netDoesRow.holds Try.pinned (OpenSpec.ofChange netDoesWrong)

/-- 'stratumlaw17.NetKeeps': WHATEVER THE INPUT: true; the input reads as it did. -/
def netKeepsSpec : ChangeSpec := { name := "netKeeps", fn := fun _ => fun
  | [d] => { results := [.lit (.bool true)], args := [d] }
  | _ => none }
def netKeepsRow : OpenClaim := { program := "ytjeojnjkmhnepaa", sum := "fbd1410fce8b5c7bfe26d3f03b853798ef73ae5509890fc201f45b39ac2aa3d4", func := "stratum/stratumlaw17.NetKeeps", spec := "netKeeps", inPlace := ["slices.overlaps[stratum/api.Mail]"], apart := false }
def NetKeepsSaid : Prop := netKeepsRow.holds Try.pinned (OpenSpec.ofChange netKeepsSpec)

/-- ITS FALSE NEIGHBOUR: 'it returns false'. Refute it at one input. -/
def netKeepsWrong : ChangeSpec := { name := "netKeeps", fn := fun _ => fun
  | [d] => { results := [.lit (.bool false)], args := [d] }
  | _ => none }
def NetKeepsWrongFalsely : Prop := netKeepsRow.holds Try.pinned (OpenSpec.ofChange netKeepsWrong)

/-- 'stratumlaw17.NetLate': WHATEVER THE INPUT: true; the input reads as it did. -/
def netLateSpec : ChangeSpec := { name := "netLate", fn := fun _ => fun
  | [d1, d2] => { results := [.lit (.bool true)], args := [d1, d2] }
  | _ => none }
def netLateRow : OpenClaim := { program := "ytjeojnjkmhnepaa", sum := "fbd1410fce8b5c7bfe26d3f03b853798ef73ae5509890fc201f45b39ac2aa3d4", func := "stratum/stratumlaw17.NetLate", spec := "netLate", inPlace := ["slices.overlaps[stratum/api.Mail]"], apart := false }
def NetLateSaid : Prop := netLateRow.holds Try.pinned (OpenSpec.ofChange netLateSpec)

/-- ITS FALSE NEIGHBOUR: 'it returns false'. Refute it at one input. -/
def netLateWrong : ChangeSpec := { name := "netLate", fn := fun _ => fun
  | [d1, d2] => { results := [.lit (.bool false)], args := [d1, d2] }
  | _ => none }
def NetLateWrongFalsely : Prop := netLateRow.holds Try.pinned (OpenSpec.ofChange netLateWrong)

/-- 'stratumlaw17.NetTwice': WHATEVER THE INPUT: true; the input reads as it did. -/
def netTwiceSpec : ChangeSpec := { name := "netTwice", fn := fun _ => fun
  | [d1, d2] => { results := [.lit (.bool true)], args := [d1, d2] }
  | _ => none }
def netTwiceRow : OpenClaim := { program := "ytjeojnjkmhnepaa", sum := "fbd1410fce8b5c7bfe26d3f03b853798ef73ae5509890fc201f45b39ac2aa3d4", func := "stratum/stratumlaw17.NetTwice", spec := "netTwice", inPlace := ["slices.overlaps[stratum/api.Mail]"], apart := false }
def NetTwiceSaid : Prop := netTwiceRow.holds Try.pinned (OpenSpec.ofChange netTwiceSpec)

/-- ITS FALSE NEIGHBOUR: 'it returns false'. Refute it at one input. -/
def netTwiceWrong : ChangeSpec := { name := "netTwice", fn := fun _ => fun
  | [d1, d2] => { results := [.lit (.bool false)], args := [d1, d2] }
  | _ => none }
def NetTwiceWrongFalsely : Prop := netTwiceRow.holds Try.pinned (OpenSpec.ofChange netTwiceWrong)

/- THE SECOND FORM. 'bulk': how many values and letters a reading holds, each counted each time it is reached (what is shared counts as often as it is met; a slice's spare places count too). A statement '..UptoSaid' is the law's where the arguments, and the package variables that the reading takes, are together of bulk at most 1048576: NARROWER than '..Said'. Prove '..Said' where nothing that the law and all that it calls make is longer than what came in: it says more and counts as full. Else prove '..UptoSaid'. A law counts once. -/
mutual
def uptoBulk {H : Type} : DataW H → Nat
  | .lit (.string bytes) => bytes.length + 1
  | .lit _ => 1
  | .nil => 1
  | .ptr d => uptoBulk d + 1
  | .slice elems spare => uptoBulkAll elems + uptoBulkAll spare + 1
  | .agg parts => uptoBulkAll parts + 1
  | .iface _ d => uptoBulk d + 1
  | .map entries => uptoBulkEntries entries + 1
  | .held _ => 1
def uptoBulkAll {H : Type} : List (DataW H) → Nat
  | [] => 0
  | d :: r => uptoBulk d + uptoBulkAll r
def uptoBulkEntries {H : Type} : List (Lit × DataW H) → Nat
  | [] => 0
  | x :: r => uptoBulkEntry x + uptoBulkEntries r
def uptoBulkEntry {H : Type} : Lit × DataW H → Nat
  | (.string bytes, d) => bytes.length + uptoBulk d + 1
  | (_, d) => uptoBulk d + 1
 end
def uptoSmall : (H : Type) → List (DataW H) → Bool := fun _ ds => decide (uptoBulkAll ds ≤ 1048576)
def OpenSpec.upto (s : _root_.Go.ChangeSpec) : _root_.Go.OpenSpec := { _root_.Go.OpenSpec.ofChange s with cond := some uptoSmall }

/-- 'stratumlaw05.DiceAll', WHERE WHAT IT READS IS OF BULK AT MOST 1048576: true; the input reads as it did. -/
def diceAllUptoRow : OpenClaim := { program := "ytjeojnjkmhnepaa", sum := "fbd1410fce8b5c7bfe26d3f03b853798ef73ae5509890fc201f45b39ac2aa3d4", func := "stratum/stratumlaw05.DiceAll", spec := "diceAll", unfollowed := true, recurses := true, apart := false, narrowed := true }
def DiceAllUptoSaid : Prop := diceAllUptoRow.holds Try.pinned (OpenSpec.upto diceAllSpec)

/-- 'stratumlaw05.DiceSounds', WHERE WHAT IT READS IS OF BULK AT MOST 1048576: true; the input reads as it did. -/
def diceSoundsUptoRow : OpenClaim := { program := "ytjeojnjkmhnepaa", sum := "fbd1410fce8b5c7bfe26d3f03b853798ef73ae5509890fc201f45b39ac2aa3d4", func := "stratum/stratumlaw05.DiceSounds", spec := "diceSounds", unfollowed := true, recurses := true, apart := false, narrowed := true }
def DiceSoundsUptoSaid : Prop := diceSoundsUptoRow.holds Try.pinned (OpenSpec.upto diceSoundsSpec)

/-- 'stratumlaw05.DiceMeets', WHERE WHAT IT READS IS OF BULK AT MOST 1048576: true; the input reads as it did. -/
def diceMeetsUptoRow : OpenClaim := { program := "ytjeojnjkmhnepaa", sum := "fbd1410fce8b5c7bfe26d3f03b853798ef73ae5509890fc201f45b39ac2aa3d4", func := "stratum/stratumlaw05.DiceMeets", spec := "diceMeets", unfollowed := true, recurses := true, apart := false, narrowed := true }
def DiceMeetsUptoSaid : Prop := diceMeetsUptoRow.holds Try.pinned (OpenSpec.upto diceMeetsSpec)

/-- 'stratumlaw05.DiceBoth', WHERE WHAT IT READS IS OF BULK AT MOST 1048576: true; the input reads as it did. -/
def diceBothUptoRow : OpenClaim := { program := "ytjeojnjkmhnepaa", sum := "fbd1410fce8b5c7bfe26d3f03b853798ef73ae5509890fc201f45b39ac2aa3d4", func := "stratum/stratumlaw05.DiceBoth", spec := "diceBoth", unfollowed := true, recurses := true, apart := false, narrowed := true }
def DiceBothUptoSaid : Prop := diceBothUptoRow.holds Try.pinned (OpenSpec.upto diceBothSpec)

/-- 'stratumlaw05.DiceCuts', WHERE WHAT IT READS IS OF BULK AT MOST 1048576: true; the input reads as it did. -/
def diceCutsUptoRow : OpenClaim := { program := "ytjeojnjkmhnepaa", sum := "fbd1410fce8b5c7bfe26d3f03b853798ef73ae5509890fc201f45b39ac2aa3d4", func := "stratum/stratumlaw05.DiceCuts", spec := "diceCuts", unfollowed := true, recurses := true, apart := false, narrowed := true }
def DiceCutsUptoSaid : Prop := diceCutsUptoRow.holds Try.pinned (OpenSpec.upto diceCutsSpec)

/-- 'stratumlaw05.DiceParts', WHERE WHAT IT READS IS OF BULK AT MOST 1048576: true; the input reads as it did. -/
def dicePartsUptoRow : OpenClaim := { program := "ytjeojnjkmhnepaa", sum := "fbd1410fce8b5c7bfe26d3f03b853798ef73ae5509890fc201f45b39ac2aa3d4", func := "stratum/stratumlaw05.DiceParts", spec := "diceParts", unfollowed := true, recurses := true, apart := false, narrowed := true }
def DicePartsUptoSaid : Prop := dicePartsUptoRow.holds Try.pinned (OpenSpec.upto dicePartsSpec)

/-- 'stratumlaw17.NetRoom', WHERE WHAT IT READS IS OF BULK AT MOST 1048576: true; the input reads as it did. -/
def netRoomUptoRow : OpenClaim := { program := "ytjeojnjkmhnepaa", sum := "fbd1410fce8b5c7bfe26d3f03b853798ef73ae5509890fc201f45b39ac2aa3d4", func := "stratum/stratumlaw17.NetRoom", spec := "netRoom", inPlace := ["slices.overlaps[stratum/api.Mail]"], apart := false, narrowed := true }
def NetRoomUptoSaid : Prop := netRoomUptoRow.holds Try.pinned (OpenSpec.upto netRoomSpec)

/-- 'stratumlaw17.NetDoes', WHERE WHAT IT READS IS OF BULK AT MOST 1048576: true; the input reads as it did. -/
def netDoesUptoRow : OpenClaim := { program := "ytjeojnjkmhnepaa", sum := "fbd1410fce8b5c7bfe26d3f03b853798ef73ae5509890fc201f45b39ac2aa3d4", func := "stratum/stratumlaw17.NetDoes", spec := "netDoes", inPlace := ["slices.overlaps[stratum/api.Mail]"], apart := false, narrowed := true }
def NetDoesUptoSaid : Prop := netDoesUptoRow.holds Try.pinned (OpenSpec.upto netDoesSpec)

/-- 'stratumlaw17.NetKeeps', WHERE WHAT IT READS IS OF BULK AT MOST 1048576: true; the input reads as it did. -/
def netKeepsUptoRow : OpenClaim := { program := "ytjeojnjkmhnepaa", sum := "fbd1410fce8b5c7bfe26d3f03b853798ef73ae5509890fc201f45b39ac2aa3d4", func := "stratum/stratumlaw17.NetKeeps", spec := "netKeeps", inPlace := ["slices.overlaps[stratum/api.Mail]"], apart := false, narrowed := true }
def NetKeepsUptoSaid : Prop := netKeepsUptoRow.holds Try.pinned (OpenSpec.upto netKeepsSpec)

/-- 'stratumlaw17.NetLate', WHERE WHAT IT READS IS OF BULK AT MOST 1048576: true; the input reads as it did. -/
def netLateUptoRow : OpenClaim := { program := "ytjeojnjkmhnepaa", sum := "fbd1410fce8b5c7bfe26d3f03b853798ef73ae5509890fc201f45b39ac2aa3d4", func := "stratum/stratumlaw17.NetLate", spec := "netLate", inPlace := ["slices.overlaps[stratum/api.Mail]"], apart := false, narrowed := true }
def NetLateUptoSaid : Prop := netLateUptoRow.holds Try.pinned (OpenSpec.upto netLateSpec)

/-- 'stratumlaw17.NetTwice', WHERE WHAT IT READS IS OF BULK AT MOST 1048576: true; the input reads as it did. -/
def netTwiceUptoRow : OpenClaim := { program := "ytjeojnjkmhnepaa", sum := "fbd1410fce8b5c7bfe26d3f03b853798ef73ae5509890fc201f45b39ac2aa3d4", func := "stratum/stratumlaw17.NetTwice", spec := "netTwice", inPlace := ["slices.overlaps[stratum/api.Mail]"], apart := false, narrowed := true }
def NetTwiceUptoSaid : Prop := netTwiceUptoRow.holds Try.pinned (OpenSpec.upto netTwiceSpec)

end Rows
end Go.Proofs.Ytjeojnjkmhnepaa
