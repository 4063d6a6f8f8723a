/-
  DERIVED. GIVEN WITH THE SEED: THE CARDS: each row of YtgcmbkoejjcjlaaGreatDoorRows.lean that lists a variable, with what it lists TIED to the program's text (the seventh form; the later family's looks); each row that meets fmt, with fmt's text TOLD by the authors' own Lean function (tested against real Go, not proved from fmt's source: count such statements apart). THE CARD IS WHAT COUNTS. Prove the row's statement (the work); the ties are given (YtgcmbkoejjcjlaaGreatDoorTie.lean); close each card by the builder's one call (the guide's Derived/Test/ToyasCard.lean, 'card_holds'). Laid BY PROGRAM, IN A SANDBOX (cutbox-door.mjs). By AI agents, Wed Nov 11 2026. No macro, syntax, notation, axiom, sorry.
-/
import Derived.Test.YtgcmbkoejjcjlaaGreatDoorRows
import GoSem.ClaimSeven
namespace Go.Proofs.YtgcmbkoejjcjlaaGreatDoor
namespace Rows

/-- THE TIED CARD OF 'stratumlaw14.PartOnce'. -/
def partOnceCard : Claim7 := { stood := { row := partOnceRow, standIns := [], harness := (true, "ca07fa21a091892b6d14ac077ec1e46025e17edb970a367ba477b60c3c264940"), looks := false }, kinds := [], alts := [], laidByText := true, laidKinds := [.data, .data, .data], laidTests := true, laidLooks := .later }
def PartOnceCardSaid : Prop := Claim7.holds Tryz.pinned (.plain (OpenSpec.ofChange partOnceSpec)) partOnceCard

/-- THE TIED CARD OF 'stratumlaw14.PartWaits'. -/
def partWaitsCard : Claim7 := { stood := { row := partWaitsRow, standIns := [], harness := (true, "ca07fa21a091892b6d14ac077ec1e46025e17edb970a367ba477b60c3c264940"), looks := false }, kinds := [], alts := [], laidByText := true, laidKinds := [.data, .data, .data], laidTests := true, laidLooks := .later }
def PartWaitsCardSaid : Prop := Claim7.holds Tryz.pinned (.plain (OpenSpec.ofChange partWaitsSpec)) partWaitsCard

/-- THE TIED CARD OF 'stratumlaw14.PartAborts'. -/
def partAbortsCard : Claim7 := { stood := { row := partAbortsRow, standIns := [], harness := (true, "ca07fa21a091892b6d14ac077ec1e46025e17edb970a367ba477b60c3c264940"), looks := false }, kinds := [], alts := [], laidByText := true, laidKinds := [.data, .data, .data], laidTests := true, laidLooks := .later }
def PartAbortsCardSaid : Prop := Claim7.holds Tryz.pinned (.plain (OpenSpec.ofChange partAbortsSpec)) partAbortsCard

/-- THE TIED CARD OF 'stratumlaw14.PartAgain'. -/
def partAgainCard : Claim7 := { stood := { row := partAgainRow, standIns := [], harness := (true, "ca07fa21a091892b6d14ac077ec1e46025e17edb970a367ba477b60c3c264940"), looks := false }, kinds := [], alts := [], laidByText := true, laidKinds := [.data, .data, .data], laidTests := true, laidLooks := .later }
def PartAgainCardSaid : Prop := Claim7.holds Tryz.pinned (.plain (OpenSpec.ofChange partAgainSpec)) partAgainCard

/-- THE TIED CARD OF 'stratumlaw14.PartLays'. -/
def partLaysCard : Claim7 := { stood := { row := partLaysRow, standIns := [], harness := (true, "ca07fa21a091892b6d14ac077ec1e46025e17edb970a367ba477b60c3c264940"), looks := false }, kinds := [], alts := [], laidByText := true, laidKinds := [.data, .data, .data], laidTests := true, laidLooks := .later }
def PartLaysCardSaid : Prop := Claim7.holds Tryz.pinned (.plain (OpenSpec.ofChange partLaysSpec)) partLaysCard

/-- THE TIED CARD OF 'stratumlaw14.PartTakes'. -/
def partTakesCard : Claim7 := { stood := { row := partTakesRow, standIns := [], harness := (true, "ca07fa21a091892b6d14ac077ec1e46025e17edb970a367ba477b60c3c264940"), looks := false }, kinds := [], alts := [], laidByText := true, laidKinds := [.data, .data, .data], laidTests := true, laidLooks := .later }
def PartTakesCardSaid : Prop := Claim7.holds Tryz.pinned (.plain (OpenSpec.ofChange partTakesSpec)) partTakesCard

/-- THE TIED CARD OF 'stratumlaw14.PartDoes'. -/
def partDoesCard : Claim7 := { stood := { row := partDoesRow, standIns := [], harness := (true, "ca07fa21a091892b6d14ac077ec1e46025e17edb970a367ba477b60c3c264940"), looks := false }, kinds := [], alts := [], laidByText := true, laidKinds := [.data, .data, .data], laidTests := true, laidLooks := .later }
def PartDoesCardSaid : Prop := Claim7.holds Tryz.pinned (.plain (OpenSpec.ofChange partDoesSpec)) partDoesCard

/-- THE SECOND FORM's CARD OF 'stratumlaw14.PartOnce'. -/
def partOnceUptoCard : Claim7 := { stood := { row := partOnceUptoRow, standIns := [], harness := (true, "ca07fa21a091892b6d14ac077ec1e46025e17edb970a367ba477b60c3c264940"), looks := false }, kinds := [], alts := [], laidByText := true, laidKinds := [.data, .data, .data], laidTests := true, laidLooks := .later }
def PartOnceUptoCardSaid : Prop := Claim7.holds Tryz.pinned (.plain (OpenSpec.upto partOnceSpec)) partOnceUptoCard

/-- THE SECOND FORM's CARD OF 'stratumlaw14.PartWaits'. -/
def partWaitsUptoCard : Claim7 := { stood := { row := partWaitsUptoRow, standIns := [], harness := (true, "ca07fa21a091892b6d14ac077ec1e46025e17edb970a367ba477b60c3c264940"), looks := false }, kinds := [], alts := [], laidByText := true, laidKinds := [.data, .data, .data], laidTests := true, laidLooks := .later }
def PartWaitsUptoCardSaid : Prop := Claim7.holds Tryz.pinned (.plain (OpenSpec.upto partWaitsSpec)) partWaitsUptoCard

/-- THE SECOND FORM's CARD OF 'stratumlaw14.PartAborts'. -/
def partAbortsUptoCard : Claim7 := { stood := { row := partAbortsUptoRow, standIns := [], harness := (true, "ca07fa21a091892b6d14ac077ec1e46025e17edb970a367ba477b60c3c264940"), looks := false }, kinds := [], alts := [], laidByText := true, laidKinds := [.data, .data, .data], laidTests := true, laidLooks := .later }
def PartAbortsUptoCardSaid : Prop := Claim7.holds Tryz.pinned (.plain (OpenSpec.upto partAbortsSpec)) partAbortsUptoCard

/-- THE SECOND FORM's CARD OF 'stratumlaw14.PartAgain'. -/
def partAgainUptoCard : Claim7 := { stood := { row := partAgainUptoRow, standIns := [], harness := (true, "ca07fa21a091892b6d14ac077ec1e46025e17edb970a367ba477b60c3c264940"), looks := false }, kinds := [], alts := [], laidByText := true, laidKinds := [.data, .data, .data], laidTests := true, laidLooks := .later }
def PartAgainUptoCardSaid : Prop := Claim7.holds Tryz.pinned (.plain (OpenSpec.upto partAgainSpec)) partAgainUptoCard

/-- THE SECOND FORM's CARD OF 'stratumlaw14.PartLays'. -/
def partLaysUptoCard : Claim7 := { stood := { row := partLaysUptoRow, standIns := [], harness := (true, "ca07fa21a091892b6d14ac077ec1e46025e17edb970a367ba477b60c3c264940"), looks := false }, kinds := [], alts := [], laidByText := true, laidKinds := [.data, .data, .data], laidTests := true, laidLooks := .later }
def PartLaysUptoCardSaid : Prop := Claim7.holds Tryz.pinned (.plain (OpenSpec.upto partLaysSpec)) partLaysUptoCard

/-- THE SECOND FORM's CARD OF 'stratumlaw14.PartTakes'. -/
def partTakesUptoCard : Claim7 := { stood := { row := partTakesUptoRow, standIns := [], harness := (true, "ca07fa21a091892b6d14ac077ec1e46025e17edb970a367ba477b60c3c264940"), looks := false }, kinds := [], alts := [], laidByText := true, laidKinds := [.data, .data, .data], laidTests := true, laidLooks := .later }
def PartTakesUptoCardSaid : Prop := Claim7.holds Tryz.pinned (.plain (OpenSpec.upto partTakesSpec)) partTakesUptoCard

/-- THE SECOND FORM's CARD OF 'stratumlaw14.PartDoes'. -/
def partDoesUptoCard : Claim7 := { stood := { row := partDoesUptoRow, standIns := [], harness := (true, "ca07fa21a091892b6d14ac077ec1e46025e17edb970a367ba477b60c3c264940"), looks := false }, kinds := [], alts := [], laidByText := true, laidKinds := [.data, .data, .data], laidTests := true, laidLooks := .later }
def PartDoesUptoCardSaid : Prop := Claim7.holds Tryz.pinned (.plain (OpenSpec.upto partDoesSpec)) partDoesUptoCard
end Rows
end Go.Proofs.YtgcmbkoejjcjlaaGreatDoor
