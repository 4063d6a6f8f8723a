/-
  DERIVED. GIVEN WITH THE SEED: THE CARDS: each row of YtlhlhpgjnjjhnaaGreatDoorRows.lean that lists a variable, with what it lists TIED to the program's text (the seventh form; the later family's looks); each row that meets fmt, with fmt's text TOLD by the authors' own Lean function (tested against real Go, not proved from fmt's source: count such statements apart). THE CARD IS WHAT COUNTS. Prove the row's statement (the work); the ties are given (YtlhlhpgjnjjhnaaGreatDoorTie.lean); close each card by the builder's one call (the guide's Derived/Test/ToyasCard.lean, 'card_holds'). Laid BY PROGRAM, IN A SANDBOX (cutbox-door.mjs). By AI agents, Wed Nov 11 2026. No macro, syntax, notation, axiom, sorry.
-/
import Derived.Test.YtlhlhpgjnjjhnaaGreatDoorRows
import GoSem.ClaimSeven
namespace Go.Proofs.YtlhlhpgjnjjhnaaGreatDoor
namespace Rows

/-- THE TIED CARD OF 'stratumlaw18.NodeMoves'. -/
def nodeMovesCard : Claim7 := { stood := { row := nodeMovesRow, standIns := [], harness := (true, "951766ffa404b1a1cfbb5dc2ea568d7df08809e00687c3ccbd8a5e82e6593808"), looks := true }, kinds := [], alts := [], laidByText := true, laidKinds := [.sentinel], laidTests := true, laidLooks := .later }
def NodeMovesCardSaid : Prop := Claim7.holds Tryz.pinned (.plain (OpenSpec.ofChange nodeMovesSpec)) nodeMovesCard

/-- THE TIED CARD OF 'stratumlaw18.NodeAborts'. -/
def nodeAbortsCard : Claim7 := { stood := { row := nodeAbortsRow, standIns := [], harness := (true, "951766ffa404b1a1cfbb5dc2ea568d7df08809e00687c3ccbd8a5e82e6593808"), looks := true }, kinds := [], alts := [], laidByText := true, laidKinds := [.sentinel], laidTests := true, laidLooks := .later }
def NodeAbortsCardSaid : Prop := Claim7.holds Tryz.pinned (.plain (OpenSpec.ofChange nodeAbortsSpec)) nodeAbortsCard

/-- THE TIED CARD OF 'stratumlaw18.NodeLasts'. -/
def nodeLastsCard : Claim7 := { stood := { row := nodeLastsRow, standIns := [], harness := (true, "951766ffa404b1a1cfbb5dc2ea568d7df08809e00687c3ccbd8a5e82e6593808"), looks := true }, kinds := [], alts := [], laidByText := true, laidKinds := [.sentinel], laidTests := true, laidLooks := .later }
def NodeLastsCardSaid : Prop := Claim7.holds Tryz.pinned (.plain (OpenSpec.ofChange nodeLastsSpec)) nodeLastsCard

/-- THE TIED CARD OF 'stratumlaw18.NodeNever'. -/
def nodeNeverCard : Claim7 := { stood := { row := nodeNeverRow, standIns := [], harness := (true, "951766ffa404b1a1cfbb5dc2ea568d7df08809e00687c3ccbd8a5e82e6593808"), looks := true }, kinds := [], alts := [], laidByText := true, laidKinds := [.sentinel], laidTests := true, laidLooks := .later }
def NodeNeverCardSaid : Prop := Claim7.holds Tryz.pinned (.plain (OpenSpec.ofChange nodeNeverSpec)) nodeNeverCard

/-- THE TIED CARD OF 'stratumlaw18.NodeDoes'. -/
def nodeDoesCard : Claim7 := { stood := { row := nodeDoesRow, standIns := [], harness := (true, "951766ffa404b1a1cfbb5dc2ea568d7df08809e00687c3ccbd8a5e82e6593808"), looks := true }, kinds := [], alts := [], laidByText := true, laidKinds := [.data, .data, .data, .sentinel], laidTests := true, laidLooks := .later }
def NodeDoesCardSaid : Prop := Claim7.holds Tryz.pinned (.plain (OpenSpec.ofChange nodeDoesSpec)) nodeDoesCard

/-- THE TIED CARD OF 'stratumlaw18.NodeAgain'. -/
def nodeAgainCard : Claim7 := { stood := { row := nodeAgainRow, standIns := [], harness := (true, "951766ffa404b1a1cfbb5dc2ea568d7df08809e00687c3ccbd8a5e82e6593808"), looks := true }, kinds := [], alts := [], laidByText := true, laidKinds := [.data, .data, .data, .sentinel], laidTests := true, laidLooks := .later }
def NodeAgainCardSaid : Prop := Claim7.holds Tryz.pinned (.plain (OpenSpec.ofChange nodeAgainSpec)) nodeAgainCard

/-- THE SECOND FORM's CARD OF 'stratumlaw18.NodeMoves'. -/
def nodeMovesUptoCard : Claim7 := { stood := { row := nodeMovesUptoRow, standIns := [], harness := (true, "951766ffa404b1a1cfbb5dc2ea568d7df08809e00687c3ccbd8a5e82e6593808"), looks := true }, kinds := [], alts := [], laidByText := true, laidKinds := [.sentinel], laidTests := true, laidLooks := .later }
def NodeMovesUptoCardSaid : Prop := Claim7.holds Tryz.pinned (.plain (OpenSpec.upto nodeMovesSpec)) nodeMovesUptoCard

/-- THE SECOND FORM's CARD OF 'stratumlaw18.NodeAborts'. -/
def nodeAbortsUptoCard : Claim7 := { stood := { row := nodeAbortsUptoRow, standIns := [], harness := (true, "951766ffa404b1a1cfbb5dc2ea568d7df08809e00687c3ccbd8a5e82e6593808"), looks := true }, kinds := [], alts := [], laidByText := true, laidKinds := [.sentinel], laidTests := true, laidLooks := .later }
def NodeAbortsUptoCardSaid : Prop := Claim7.holds Tryz.pinned (.plain (OpenSpec.upto nodeAbortsSpec)) nodeAbortsUptoCard

/-- THE SECOND FORM's CARD OF 'stratumlaw18.NodeLasts'. -/
def nodeLastsUptoCard : Claim7 := { stood := { row := nodeLastsUptoRow, standIns := [], harness := (true, "951766ffa404b1a1cfbb5dc2ea568d7df08809e00687c3ccbd8a5e82e6593808"), looks := true }, kinds := [], alts := [], laidByText := true, laidKinds := [.sentinel], laidTests := true, laidLooks := .later }
def NodeLastsUptoCardSaid : Prop := Claim7.holds Tryz.pinned (.plain (OpenSpec.upto nodeLastsSpec)) nodeLastsUptoCard

/-- THE SECOND FORM's CARD OF 'stratumlaw18.NodeNever'. -/
def nodeNeverUptoCard : Claim7 := { stood := { row := nodeNeverUptoRow, standIns := [], harness := (true, "951766ffa404b1a1cfbb5dc2ea568d7df08809e00687c3ccbd8a5e82e6593808"), looks := true }, kinds := [], alts := [], laidByText := true, laidKinds := [.sentinel], laidTests := true, laidLooks := .later }
def NodeNeverUptoCardSaid : Prop := Claim7.holds Tryz.pinned (.plain (OpenSpec.upto nodeNeverSpec)) nodeNeverUptoCard

/-- THE SECOND FORM's CARD OF 'stratumlaw18.NodeDoes'. -/
def nodeDoesUptoCard : Claim7 := { stood := { row := nodeDoesUptoRow, standIns := [], harness := (true, "951766ffa404b1a1cfbb5dc2ea568d7df08809e00687c3ccbd8a5e82e6593808"), looks := true }, kinds := [], alts := [], laidByText := true, laidKinds := [.data, .data, .data, .sentinel], laidTests := true, laidLooks := .later }
def NodeDoesUptoCardSaid : Prop := Claim7.holds Tryz.pinned (.plain (OpenSpec.upto nodeDoesSpec)) nodeDoesUptoCard

/-- THE SECOND FORM's CARD OF 'stratumlaw18.NodeAgain'. -/
def nodeAgainUptoCard : Claim7 := { stood := { row := nodeAgainUptoRow, standIns := [], harness := (true, "951766ffa404b1a1cfbb5dc2ea568d7df08809e00687c3ccbd8a5e82e6593808"), looks := true }, kinds := [], alts := [], laidByText := true, laidKinds := [.data, .data, .data, .sentinel], laidTests := true, laidLooks := .later }
def NodeAgainUptoCardSaid : Prop := Claim7.holds Tryz.pinned (.plain (OpenSpec.upto nodeAgainSpec)) nodeAgainUptoCard
end Rows
end Go.Proofs.YtlhlhpgjnjjhnaaGreatDoor
