/-
  DERIVED. GIVEN WITH THE SEED: THE CARDS: each row of YthpacapdaembpaaDoorRows.lean that lists a variable, with what it lists TIED to the program's text (the seventh form; the later family's looks); each row that meets fmt, with fmt's text TOLD by the authors' own Lean function (tested against real Go, not proved from fmt's source: count such statements apart). THE CARD IS WHAT COUNTS. Prove the row's statement (the work); the ties are given (YthpacapdaembpaaDoorTie.lean); close each card by the builder's one call (the guide's Derived/Test/ToyasCard.lean, 'card_holds'). Laid BY PROGRAM, IN A SANDBOX (cutbox-door.mjs). By AI agents, Wed Nov 11 2026. No macro, syntax, notation, axiom, sorry.
-/
import Derived.Test.YthpacapdaembpaaDoorRows
import GoSem.ClaimSeven
namespace Go.Proofs.YthpacapdaembpaaDoor
namespace Rows

/-- THE TIED CARD OF 'stratumlaw04.TableSounds'. -/
def tableSoundsCard : Claim7 := { stood := { row := tableSoundsRow, standIns := [], harness := (true, "d42ed1cfc2b0f9df9a24a083d5ad2599d0e86e8b6db80fc5d33ab2fe9252cd80"), looks := false }, kinds := [], alts := [], laidByText := true, laidKinds := [.data, .data, .data], laidTests := true, laidLooks := .later }
def TableSoundsCardSaid : Prop := Claim7.holds Tryd.pinned (.plain (OpenSpec.ofChange tableSoundsSpec)) tableSoundsCard

/-- THE TIED CARD OF 'stratumlaw04.TableMakes'. -/
def tableMakesCard : Claim7 := { stood := { row := tableMakesRow, standIns := [], harness := (true, "d42ed1cfc2b0f9df9a24a083d5ad2599d0e86e8b6db80fc5d33ab2fe9252cd80"), looks := false }, kinds := [], alts := [], laidByText := true, laidKinds := [.data, .data, .data], laidTests := true, laidLooks := .later }
def TableMakesCardSaid : Prop := Claim7.holds Tryd.pinned (.plain (OpenSpec.ofChange tableMakesSpec)) tableMakesCard

/-- THE TIED CARD OF 'stratumlaw04.TableOne'. -/
def tableOneCard : Claim7 := { stood := { row := tableOneRow, standIns := [], harness := (true, "d42ed1cfc2b0f9df9a24a083d5ad2599d0e86e8b6db80fc5d33ab2fe9252cd80"), looks := false }, kinds := [], alts := [], laidByText := true, laidKinds := [.data, .data, .data], laidTests := true, laidLooks := .later }
def TableOneCardSaid : Prop := Claim7.holds Tryd.pinned (.plain (OpenSpec.ofChange tableOneSpec)) tableOneCard

/-- THE TIED CARD OF 'stratumlaw04.TableMerges'. -/
def tableMergesCard : Claim7 := { stood := { row := tableMergesRow, standIns := [], harness := (true, "d42ed1cfc2b0f9df9a24a083d5ad2599d0e86e8b6db80fc5d33ab2fe9252cd80"), looks := false }, kinds := [], alts := [], laidByText := true, laidKinds := [.data, .data, .data], laidTests := true, laidLooks := .later }
def TableMergesCardSaid : Prop := Claim7.holds Tryd.pinned (.plain (OpenSpec.ofChange tableMergesSpec)) tableMergesCard

/-- THE TIED CARD OF 'stratumlaw04.TableOrder'. -/
def tableOrderCard : Claim7 := { stood := { row := tableOrderRow, standIns := [], harness := (true, "d42ed1cfc2b0f9df9a24a083d5ad2599d0e86e8b6db80fc5d33ab2fe9252cd80"), looks := false }, kinds := [], alts := [], laidByText := true, laidKinds := [.data, .data, .data], laidTests := true, laidLooks := .later }
def TableOrderCardSaid : Prop := Claim7.holds Tryd.pinned (.plain (OpenSpec.ofChange tableOrderSpec)) tableOrderCard

/-- THE TIED CARD OF 'stratumlaw04.TableRolls'. -/
def tableRollsCard : Claim7 := { stood := { row := tableRollsRow, standIns := [], harness := (true, "d42ed1cfc2b0f9df9a24a083d5ad2599d0e86e8b6db80fc5d33ab2fe9252cd80"), looks := false }, kinds := [], alts := [], laidByText := true, laidKinds := [.data, .data, .data], laidTests := true, laidLooks := .later }
def TableRollsCardSaid : Prop := Claim7.holds Tryd.pinned (.plain (OpenSpec.ofChange tableRollsSpec)) tableRollsCard

/-- THE TIED CARD OF 'stratumlaw04.TableGoes'. -/
def tableGoesCard : Claim7 := { stood := { row := tableGoesRow, standIns := [], harness := (true, "d42ed1cfc2b0f9df9a24a083d5ad2599d0e86e8b6db80fc5d33ab2fe9252cd80"), looks := false }, kinds := [], alts := [], laidByText := true, laidKinds := [.data, .data, .data], laidTests := true, laidLooks := .later }
def TableGoesCardSaid : Prop := Claim7.holds Tryd.pinned (.plain (OpenSpec.ofChange tableGoesSpec)) tableGoesCard

/-- THE TIED CARD OF 'stratumlaw04.TableSteps'. -/
def tableStepsCard : Claim7 := { stood := { row := tableStepsRow, standIns := [], harness := (true, "d42ed1cfc2b0f9df9a24a083d5ad2599d0e86e8b6db80fc5d33ab2fe9252cd80"), looks := false }, kinds := [], alts := [], laidByText := true, laidKinds := [.data, .data, .data], laidTests := true, laidLooks := .later }
def TableStepsCardSaid : Prop := Claim7.holds Tryd.pinned (.plain (OpenSpec.ofChange tableStepsSpec)) tableStepsCard

/-- THE TIED CARD OF 'stratumlaw06.QueryChecks'. -/
def queryChecksCard : Claim7 := { stood := { row := queryChecksRow, standIns := [], harness := (true, "d42ed1cfc2b0f9df9a24a083d5ad2599d0e86e8b6db80fc5d33ab2fe9252cd80"), looks := false }, kinds := [], alts := [], laidByText := true, laidKinds := [.data, .data, .data], laidTests := true, laidLooks := .later }
def QueryChecksCardSaid : Prop := Claim7.holds Tryd.pinned (.plain (OpenSpec.ofChange queryChecksSpec)) queryChecksCard

/-- THE TIED CARD OF 'stratumlaw06.QueryTop'. -/
def queryTopCard : Claim7 := { stood := { row := queryTopRow, standIns := [], harness := (true, "d42ed1cfc2b0f9df9a24a083d5ad2599d0e86e8b6db80fc5d33ab2fe9252cd80"), looks := false }, kinds := [], alts := [], laidByText := true, laidKinds := [.data, .data, .data], laidTests := true, laidLooks := .later }
def QueryTopCardSaid : Prop := Claim7.holds Tryd.pinned (.plain (OpenSpec.ofChange queryTopSpec)) queryTopCard

/-- THE TIED CARD OF 'stratumlaw06.QueryJoins'. -/
def queryJoinsCard : Claim7 := { stood := { row := queryJoinsRow, standIns := [], harness := (true, "d42ed1cfc2b0f9df9a24a083d5ad2599d0e86e8b6db80fc5d33ab2fe9252cd80"), looks := false }, kinds := [], alts := [], laidByText := true, laidKinds := [.data, .data, .data], laidTests := true, laidLooks := .later }
def QueryJoinsCardSaid : Prop := Claim7.holds Tryd.pinned (.plain (OpenSpec.ofChange queryJoinsSpec)) queryJoinsCard

/-- THE TIED CARD OF 'stratumlaw06.QueryParts'. -/
def queryPartsCard : Claim7 := { stood := { row := queryPartsRow, standIns := [], harness := (true, "d42ed1cfc2b0f9df9a24a083d5ad2599d0e86e8b6db80fc5d33ab2fe9252cd80"), looks := false }, kinds := [], alts := [], laidByText := true, laidKinds := [.data, .data, .data], laidTests := true, laidLooks := .later }
def QueryPartsCardSaid : Prop := Claim7.holds Tryd.pinned (.plain (OpenSpec.ofChange queryPartsSpec)) queryPartsCard

/-- THE TIED CARD OF 'stratumlaw06.QueryBoxes'. -/
def queryBoxesCard : Claim7 := { stood := { row := queryBoxesRow, standIns := [], harness := (true, "d42ed1cfc2b0f9df9a24a083d5ad2599d0e86e8b6db80fc5d33ab2fe9252cd80"), looks := false }, kinds := [], alts := [], laidByText := true, laidKinds := [.data, .data, .data], laidTests := true, laidLooks := .later }
def QueryBoxesCardSaid : Prop := Claim7.holds Tryd.pinned (.plain (OpenSpec.ofChange queryBoxesSpec)) queryBoxesCard

/-- THE TIED CARD OF 'stratumlaw06.QueryEmpty'. -/
def queryEmptyCard : Claim7 := { stood := { row := queryEmptyRow, standIns := [], harness := (true, "d42ed1cfc2b0f9df9a24a083d5ad2599d0e86e8b6db80fc5d33ab2fe9252cd80"), looks := false }, kinds := [], alts := [], laidByText := true, laidKinds := [.data, .data, .data], laidTests := true, laidLooks := .later }
def QueryEmptyCardSaid : Prop := Claim7.holds Tryd.pinned (.plain (OpenSpec.ofChange queryEmptySpec)) queryEmptyCard

/-- THE SECOND FORM's CARD OF 'stratumlaw04.TableSounds'. -/
def tableSoundsUptoCard : Claim7 := { stood := { row := tableSoundsUptoRow, standIns := [], harness := (true, "d42ed1cfc2b0f9df9a24a083d5ad2599d0e86e8b6db80fc5d33ab2fe9252cd80"), looks := false }, kinds := [], alts := [], laidByText := true, laidKinds := [.data, .data, .data], laidTests := true, laidLooks := .later }
def TableSoundsUptoCardSaid : Prop := Claim7.holds Tryd.pinned (.plain (OpenSpec.upto tableSoundsSpec)) tableSoundsUptoCard

/-- THE SECOND FORM's CARD OF 'stratumlaw04.TableMakes'. -/
def tableMakesUptoCard : Claim7 := { stood := { row := tableMakesUptoRow, standIns := [], harness := (true, "d42ed1cfc2b0f9df9a24a083d5ad2599d0e86e8b6db80fc5d33ab2fe9252cd80"), looks := false }, kinds := [], alts := [], laidByText := true, laidKinds := [.data, .data, .data], laidTests := true, laidLooks := .later }
def TableMakesUptoCardSaid : Prop := Claim7.holds Tryd.pinned (.plain (OpenSpec.upto tableMakesSpec)) tableMakesUptoCard

/-- THE SECOND FORM's CARD OF 'stratumlaw04.TableOne'. -/
def tableOneUptoCard : Claim7 := { stood := { row := tableOneUptoRow, standIns := [], harness := (true, "d42ed1cfc2b0f9df9a24a083d5ad2599d0e86e8b6db80fc5d33ab2fe9252cd80"), looks := false }, kinds := [], alts := [], laidByText := true, laidKinds := [.data, .data, .data], laidTests := true, laidLooks := .later }
def TableOneUptoCardSaid : Prop := Claim7.holds Tryd.pinned (.plain (OpenSpec.upto tableOneSpec)) tableOneUptoCard

/-- THE SECOND FORM's CARD OF 'stratumlaw04.TableMerges'. -/
def tableMergesUptoCard : Claim7 := { stood := { row := tableMergesUptoRow, standIns := [], harness := (true, "d42ed1cfc2b0f9df9a24a083d5ad2599d0e86e8b6db80fc5d33ab2fe9252cd80"), looks := false }, kinds := [], alts := [], laidByText := true, laidKinds := [.data, .data, .data], laidTests := true, laidLooks := .later }
def TableMergesUptoCardSaid : Prop := Claim7.holds Tryd.pinned (.plain (OpenSpec.upto tableMergesSpec)) tableMergesUptoCard

/-- THE SECOND FORM's CARD OF 'stratumlaw04.TableOrder'. -/
def tableOrderUptoCard : Claim7 := { stood := { row := tableOrderUptoRow, standIns := [], harness := (true, "d42ed1cfc2b0f9df9a24a083d5ad2599d0e86e8b6db80fc5d33ab2fe9252cd80"), looks := false }, kinds := [], alts := [], laidByText := true, laidKinds := [.data, .data, .data], laidTests := true, laidLooks := .later }
def TableOrderUptoCardSaid : Prop := Claim7.holds Tryd.pinned (.plain (OpenSpec.upto tableOrderSpec)) tableOrderUptoCard

/-- THE SECOND FORM's CARD OF 'stratumlaw04.TableRolls'. -/
def tableRollsUptoCard : Claim7 := { stood := { row := tableRollsUptoRow, standIns := [], harness := (true, "d42ed1cfc2b0f9df9a24a083d5ad2599d0e86e8b6db80fc5d33ab2fe9252cd80"), looks := false }, kinds := [], alts := [], laidByText := true, laidKinds := [.data, .data, .data], laidTests := true, laidLooks := .later }
def TableRollsUptoCardSaid : Prop := Claim7.holds Tryd.pinned (.plain (OpenSpec.upto tableRollsSpec)) tableRollsUptoCard

/-- THE SECOND FORM's CARD OF 'stratumlaw04.TableGoes'. -/
def tableGoesUptoCard : Claim7 := { stood := { row := tableGoesUptoRow, standIns := [], harness := (true, "d42ed1cfc2b0f9df9a24a083d5ad2599d0e86e8b6db80fc5d33ab2fe9252cd80"), looks := false }, kinds := [], alts := [], laidByText := true, laidKinds := [.data, .data, .data], laidTests := true, laidLooks := .later }
def TableGoesUptoCardSaid : Prop := Claim7.holds Tryd.pinned (.plain (OpenSpec.upto tableGoesSpec)) tableGoesUptoCard

/-- THE SECOND FORM's CARD OF 'stratumlaw04.TableSteps'. -/
def tableStepsUptoCard : Claim7 := { stood := { row := tableStepsUptoRow, standIns := [], harness := (true, "d42ed1cfc2b0f9df9a24a083d5ad2599d0e86e8b6db80fc5d33ab2fe9252cd80"), looks := false }, kinds := [], alts := [], laidByText := true, laidKinds := [.data, .data, .data], laidTests := true, laidLooks := .later }
def TableStepsUptoCardSaid : Prop := Claim7.holds Tryd.pinned (.plain (OpenSpec.upto tableStepsSpec)) tableStepsUptoCard

/-- THE SECOND FORM's CARD OF 'stratumlaw06.QueryChecks'. -/
def queryChecksUptoCard : Claim7 := { stood := { row := queryChecksUptoRow, standIns := [], harness := (true, "d42ed1cfc2b0f9df9a24a083d5ad2599d0e86e8b6db80fc5d33ab2fe9252cd80"), looks := false }, kinds := [], alts := [], laidByText := true, laidKinds := [.data, .data, .data], laidTests := true, laidLooks := .later }
def QueryChecksUptoCardSaid : Prop := Claim7.holds Tryd.pinned (.plain (OpenSpec.upto queryChecksSpec)) queryChecksUptoCard

/-- THE SECOND FORM's CARD OF 'stratumlaw06.QueryTop'. -/
def queryTopUptoCard : Claim7 := { stood := { row := queryTopUptoRow, standIns := [], harness := (true, "d42ed1cfc2b0f9df9a24a083d5ad2599d0e86e8b6db80fc5d33ab2fe9252cd80"), looks := false }, kinds := [], alts := [], laidByText := true, laidKinds := [.data, .data, .data], laidTests := true, laidLooks := .later }
def QueryTopUptoCardSaid : Prop := Claim7.holds Tryd.pinned (.plain (OpenSpec.upto queryTopSpec)) queryTopUptoCard

/-- THE SECOND FORM's CARD OF 'stratumlaw06.QueryJoins'. -/
def queryJoinsUptoCard : Claim7 := { stood := { row := queryJoinsUptoRow, standIns := [], harness := (true, "d42ed1cfc2b0f9df9a24a083d5ad2599d0e86e8b6db80fc5d33ab2fe9252cd80"), looks := false }, kinds := [], alts := [], laidByText := true, laidKinds := [.data, .data, .data], laidTests := true, laidLooks := .later }
def QueryJoinsUptoCardSaid : Prop := Claim7.holds Tryd.pinned (.plain (OpenSpec.upto queryJoinsSpec)) queryJoinsUptoCard

/-- THE SECOND FORM's CARD OF 'stratumlaw06.QueryParts'. -/
def queryPartsUptoCard : Claim7 := { stood := { row := queryPartsUptoRow, standIns := [], harness := (true, "d42ed1cfc2b0f9df9a24a083d5ad2599d0e86e8b6db80fc5d33ab2fe9252cd80"), looks := false }, kinds := [], alts := [], laidByText := true, laidKinds := [.data, .data, .data], laidTests := true, laidLooks := .later }
def QueryPartsUptoCardSaid : Prop := Claim7.holds Tryd.pinned (.plain (OpenSpec.upto queryPartsSpec)) queryPartsUptoCard

/-- THE SECOND FORM's CARD OF 'stratumlaw06.QueryBoxes'. -/
def queryBoxesUptoCard : Claim7 := { stood := { row := queryBoxesUptoRow, standIns := [], harness := (true, "d42ed1cfc2b0f9df9a24a083d5ad2599d0e86e8b6db80fc5d33ab2fe9252cd80"), looks := false }, kinds := [], alts := [], laidByText := true, laidKinds := [.data, .data, .data], laidTests := true, laidLooks := .later }
def QueryBoxesUptoCardSaid : Prop := Claim7.holds Tryd.pinned (.plain (OpenSpec.upto queryBoxesSpec)) queryBoxesUptoCard

/-- THE SECOND FORM's CARD OF 'stratumlaw06.QueryEmpty'. -/
def queryEmptyUptoCard : Claim7 := { stood := { row := queryEmptyUptoRow, standIns := [], harness := (true, "d42ed1cfc2b0f9df9a24a083d5ad2599d0e86e8b6db80fc5d33ab2fe9252cd80"), looks := false }, kinds := [], alts := [], laidByText := true, laidKinds := [.data, .data, .data], laidTests := true, laidLooks := .later }
def QueryEmptyUptoCardSaid : Prop := Claim7.holds Tryd.pinned (.plain (OpenSpec.upto queryEmptySpec)) queryEmptyUptoCard
end Rows
end Go.Proofs.YthpacapdaembpaaDoor
