/-
  DERIVED. GIVEN WITH THE SEED: THE CARDS: each row of YtgjdjdjhoipfmaaGreatDoorRows.lean that lists a variable, with what it lists TIED to the program's text (the seventh form; the later family's looks); each row that meets fmt, with fmt's text TOLD by the authors' own Lean function (tested against real Go, not proved from fmt's source: count such statements apart). THE CARD IS WHAT COUNTS. Prove the row's statement (the work); the ties are given (YtgjdjdjhoipfmaaGreatDoorTie.lean); close each card by the builder's one call (the guide's Derived/Test/ToyasCard.lean, 'card_holds'). Laid BY PROGRAM, IN A SANDBOX (cutbox-door.mjs). By AI agents, Wed Nov 11 2026. No macro, syntax, notation, axiom, sorry.
-/
import Derived.Test.YtgjdjdjhoipfmaaGreatDoorRows
import GoSem.ClaimSeven
namespace Go.Proofs.YtgjdjdjhoipfmaaGreatDoor
namespace Rows

/-- THE TIED CARD OF 'stratumlaw13.CubeKeeps'. -/
def cubeKeepsCard : Claim7 := { stood := { row := cubeKeepsRow, standIns := [], harness := (true, "4c9fa3701e44517e3d32554ad4943363e0fc84486d8a8ae138a4ba440676f1ef"), looks := false }, kinds := [], alts := [], laidByText := true, laidKinds := [.data, .data, .data], laidTests := true, laidLooks := .later }
def CubeKeepsCardSaid : Prop := Claim7.holds Tryz.pinned (.plain (OpenSpec.ofChange cubeKeepsSpec)) cubeKeepsCard

/-- THE TIED CARD OF 'stratumlaw13.CubeOwn'. -/
def cubeOwnCard : Claim7 := { stood := { row := cubeOwnRow, standIns := [], harness := (true, "4c9fa3701e44517e3d32554ad4943363e0fc84486d8a8ae138a4ba440676f1ef"), looks := false }, kinds := [], alts := [], laidByText := true, laidKinds := [.data, .data, .data], laidTests := true, laidLooks := .later }
def CubeOwnCardSaid : Prop := Claim7.holds Tryz.pinned (.plain (OpenSpec.ofChange cubeOwnSpec)) cubeOwnCard

/-- THE TIED CARD OF 'stratumlaw13.CubeTimes'. -/
def cubeTimesCard : Claim7 := { stood := { row := cubeTimesRow, standIns := [], harness := (true, "4c9fa3701e44517e3d32554ad4943363e0fc84486d8a8ae138a4ba440676f1ef"), looks := false }, kinds := [], alts := [], laidByText := true, laidKinds := [.data, .data, .data], laidTests := true, laidLooks := .later }
def CubeTimesCardSaid : Prop := Claim7.holds Tryz.pinned (.plain (OpenSpec.ofChange cubeTimesSpec)) cubeTimesCard

/-- THE TIED CARD OF 'stratumlaw13.CubeAsks'. -/
def cubeAsksCard : Claim7 := { stood := { row := cubeAsksRow, standIns := [], harness := (true, "4c9fa3701e44517e3d32554ad4943363e0fc84486d8a8ae138a4ba440676f1ef"), looks := false }, kinds := [], alts := [], laidByText := true, laidKinds := [.data, .data, .data], laidTests := true, laidLooks := .later }
def CubeAsksCardSaid : Prop := Claim7.holds Tryz.pinned (.plain (OpenSpec.ofChange cubeAsksSpec)) cubeAsksCard

/-- THE TIED CARD OF 'stratumlaw13.CubeCuts'. -/
def cubeCutsCard : Claim7 := { stood := { row := cubeCutsRow, standIns := [], harness := (true, "4c9fa3701e44517e3d32554ad4943363e0fc84486d8a8ae138a4ba440676f1ef"), looks := false }, kinds := [], alts := [], laidByText := true, laidKinds := [.data, .data, .data], laidTests := true, laidLooks := .later }
def CubeCutsCardSaid : Prop := Claim7.holds Tryz.pinned (.plain (OpenSpec.ofChange cubeCutsSpec)) cubeCutsCard

/-- THE TIED CARD OF 'stratumlaw13.CubeDoes'. -/
def cubeDoesCard : Claim7 := { stood := { row := cubeDoesRow, standIns := [], harness := (true, "4c9fa3701e44517e3d32554ad4943363e0fc84486d8a8ae138a4ba440676f1ef"), looks := false }, kinds := [], alts := [], laidByText := true, laidKinds := [.data, .data, .data], laidTests := true, laidLooks := .later }
def CubeDoesCardSaid : Prop := Claim7.holds Tryz.pinned (.plain (OpenSpec.ofChange cubeDoesSpec)) cubeDoesCard

/-- THE TIED CARD OF 'stratumlaw13.CubeMoves'. -/
def cubeMovesCard : Claim7 := { stood := { row := cubeMovesRow, standIns := [], harness := (true, "4c9fa3701e44517e3d32554ad4943363e0fc84486d8a8ae138a4ba440676f1ef"), looks := false }, kinds := [], alts := [], laidByText := true, laidKinds := [.data, .data, .data], laidTests := true, laidLooks := .later }
def CubeMovesCardSaid : Prop := Claim7.holds Tryz.pinned (.plain (OpenSpec.ofChange cubeMovesSpec)) cubeMovesCard

/-- THE TIED CARD OF 'stratumlaw13.CubeRefuses'. -/
def cubeRefusesCard : Claim7 := { stood := { row := cubeRefusesRow, standIns := [], harness := (true, "4c9fa3701e44517e3d32554ad4943363e0fc84486d8a8ae138a4ba440676f1ef"), looks := false }, kinds := [], alts := [], laidByText := true, laidKinds := [.data, .data, .data], laidTests := true, laidLooks := .later }
def CubeRefusesCardSaid : Prop := Claim7.holds Tryz.pinned (.plain (OpenSpec.ofChange cubeRefusesSpec)) cubeRefusesCard

/-- THE SECOND FORM's CARD OF 'stratumlaw13.CubeKeeps'. -/
def cubeKeepsUptoCard : Claim7 := { stood := { row := cubeKeepsUptoRow, standIns := [], harness := (true, "4c9fa3701e44517e3d32554ad4943363e0fc84486d8a8ae138a4ba440676f1ef"), looks := false }, kinds := [], alts := [], laidByText := true, laidKinds := [.data, .data, .data], laidTests := true, laidLooks := .later }
def CubeKeepsUptoCardSaid : Prop := Claim7.holds Tryz.pinned (.plain (OpenSpec.upto cubeKeepsSpec)) cubeKeepsUptoCard

/-- THE SECOND FORM's CARD OF 'stratumlaw13.CubeOwn'. -/
def cubeOwnUptoCard : Claim7 := { stood := { row := cubeOwnUptoRow, standIns := [], harness := (true, "4c9fa3701e44517e3d32554ad4943363e0fc84486d8a8ae138a4ba440676f1ef"), looks := false }, kinds := [], alts := [], laidByText := true, laidKinds := [.data, .data, .data], laidTests := true, laidLooks := .later }
def CubeOwnUptoCardSaid : Prop := Claim7.holds Tryz.pinned (.plain (OpenSpec.upto cubeOwnSpec)) cubeOwnUptoCard

/-- THE SECOND FORM's CARD OF 'stratumlaw13.CubeTimes'. -/
def cubeTimesUptoCard : Claim7 := { stood := { row := cubeTimesUptoRow, standIns := [], harness := (true, "4c9fa3701e44517e3d32554ad4943363e0fc84486d8a8ae138a4ba440676f1ef"), looks := false }, kinds := [], alts := [], laidByText := true, laidKinds := [.data, .data, .data], laidTests := true, laidLooks := .later }
def CubeTimesUptoCardSaid : Prop := Claim7.holds Tryz.pinned (.plain (OpenSpec.upto cubeTimesSpec)) cubeTimesUptoCard

/-- THE SECOND FORM's CARD OF 'stratumlaw13.CubeAsks'. -/
def cubeAsksUptoCard : Claim7 := { stood := { row := cubeAsksUptoRow, standIns := [], harness := (true, "4c9fa3701e44517e3d32554ad4943363e0fc84486d8a8ae138a4ba440676f1ef"), looks := false }, kinds := [], alts := [], laidByText := true, laidKinds := [.data, .data, .data], laidTests := true, laidLooks := .later }
def CubeAsksUptoCardSaid : Prop := Claim7.holds Tryz.pinned (.plain (OpenSpec.upto cubeAsksSpec)) cubeAsksUptoCard

/-- THE SECOND FORM's CARD OF 'stratumlaw13.CubeCuts'. -/
def cubeCutsUptoCard : Claim7 := { stood := { row := cubeCutsUptoRow, standIns := [], harness := (true, "4c9fa3701e44517e3d32554ad4943363e0fc84486d8a8ae138a4ba440676f1ef"), looks := false }, kinds := [], alts := [], laidByText := true, laidKinds := [.data, .data, .data], laidTests := true, laidLooks := .later }
def CubeCutsUptoCardSaid : Prop := Claim7.holds Tryz.pinned (.plain (OpenSpec.upto cubeCutsSpec)) cubeCutsUptoCard

/-- THE SECOND FORM's CARD OF 'stratumlaw13.CubeDoes'. -/
def cubeDoesUptoCard : Claim7 := { stood := { row := cubeDoesUptoRow, standIns := [], harness := (true, "4c9fa3701e44517e3d32554ad4943363e0fc84486d8a8ae138a4ba440676f1ef"), looks := false }, kinds := [], alts := [], laidByText := true, laidKinds := [.data, .data, .data], laidTests := true, laidLooks := .later }
def CubeDoesUptoCardSaid : Prop := Claim7.holds Tryz.pinned (.plain (OpenSpec.upto cubeDoesSpec)) cubeDoesUptoCard

/-- THE SECOND FORM's CARD OF 'stratumlaw13.CubeMoves'. -/
def cubeMovesUptoCard : Claim7 := { stood := { row := cubeMovesUptoRow, standIns := [], harness := (true, "4c9fa3701e44517e3d32554ad4943363e0fc84486d8a8ae138a4ba440676f1ef"), looks := false }, kinds := [], alts := [], laidByText := true, laidKinds := [.data, .data, .data], laidTests := true, laidLooks := .later }
def CubeMovesUptoCardSaid : Prop := Claim7.holds Tryz.pinned (.plain (OpenSpec.upto cubeMovesSpec)) cubeMovesUptoCard

/-- THE SECOND FORM's CARD OF 'stratumlaw13.CubeRefuses'. -/
def cubeRefusesUptoCard : Claim7 := { stood := { row := cubeRefusesUptoRow, standIns := [], harness := (true, "4c9fa3701e44517e3d32554ad4943363e0fc84486d8a8ae138a4ba440676f1ef"), looks := false }, kinds := [], alts := [], laidByText := true, laidKinds := [.data, .data, .data], laidTests := true, laidLooks := .later }
def CubeRefusesUptoCardSaid : Prop := Claim7.holds Tryz.pinned (.plain (OpenSpec.upto cubeRefusesSpec)) cubeRefusesUptoCard
end Rows
end Go.Proofs.YtgjdjdjhoipfmaaGreatDoor
