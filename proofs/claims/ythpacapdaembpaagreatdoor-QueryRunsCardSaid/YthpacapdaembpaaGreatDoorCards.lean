/-
  DERIVED. GIVEN WITH THE SEED: THE CARDS: each row of YthpacapdaembpaaGreatDoorRows.lean that lists a variable, with what it lists TIED to the program's text (the seventh form; the later family's looks); each row that meets fmt, with fmt's text TOLD by the authors' own Lean function (tested against real Go, not proved from fmt's source: count such statements apart). THE CARD IS WHAT COUNTS. Prove the row's statement (the work); the ties are given (YthpacapdaembpaaGreatDoorTie.lean); close each card by the builder's one call (the guide's Derived/Test/ToyasCard.lean, 'card_holds'). Laid BY PROGRAM, IN A SANDBOX (cutbox-door.mjs). By AI agents, Wed Nov 11 2026. No macro, syntax, notation, axiom, sorry.
-/
import Derived.Test.YthpacapdaembpaaGreatDoorRows
import GoSem.ClaimSeven
namespace Go.Proofs.YthpacapdaembpaaGreatDoor
namespace Rows

/-- THE TIED CARD OF 'stratumlaw06.QueryRuns'. -/
def queryRunsCard : Claim7 := { stood := { row := queryRunsRow, standIns := [], harness := (true, "e12be59cda6de4247dff69aa0c1a3c10b3609c30a18612c505065c9de966a9fd"), looks := false }, kinds := [], alts := [], laidByText := true, laidKinds := [.data, .data, .data], laidTests := true, laidLooks := .later }
def QueryRunsCardSaid : Prop := Claim7.holds Tryz.pinned (.plain (OpenSpec.ofChange queryRunsSpec)) queryRunsCard

/-- THE SECOND FORM's CARD OF 'stratumlaw06.QueryRuns'. -/
def queryRunsUptoCard : Claim7 := { stood := { row := queryRunsUptoRow, standIns := [], harness := (true, "e12be59cda6de4247dff69aa0c1a3c10b3609c30a18612c505065c9de966a9fd"), looks := false }, kinds := [], alts := [], laidByText := true, laidKinds := [.data, .data, .data], laidTests := true, laidLooks := .later }
def QueryRunsUptoCardSaid : Prop := Claim7.holds Tryz.pinned (.plain (OpenSpec.upto queryRunsSpec)) queryRunsUptoCard
end Rows
end Go.Proofs.YthpacapdaembpaaGreatDoor
