/-
  DERIVED. GIVEN WITH THE SEED: THE CARDS: each row of YtfnljcallbalgaaGreatDoorRows.lean that lists a variable, with what it lists TIED to the program's text (the seventh form; the later family's looks); each row that meets fmt, with fmt's text TOLD by the authors' own Lean function (tested against real Go, not proved from fmt's source: count such statements apart). THE CARD IS WHAT COUNTS. Prove the row's statement (the work); the ties are given (YtfnljcallbalgaaGreatDoorTie.lean); close each card by the builder's one call (the guide's Derived/Test/ToyasCard.lean, 'card_holds'). Laid BY PROGRAM, IN A SANDBOX (cutbox-door.mjs). By AI agents, Wed Nov 11 2026. No macro, syntax, notation, axiom, sorry.
-/
import Derived.Test.YtfnljcallbalgaaGreatDoorRows
import GoSem.ClaimSeven
namespace Go.Proofs.YtfnljcallbalgaaGreatDoor
namespace Rows

/-- THE TIED CARD OF 'sheavelaw59.ScenarioErrors'. -/
def scenarioErrorsCard : Claim7 := { stood := { row := scenarioErrorsRow, standIns := [], harness := (true, "14aad01789317483cd63f276ddb14bbbcbce6ad6f7fd816dd921b05532258f1d"), looks := true }, kinds := [], alts := [], laidByText := true, laidKinds := [.data, .data, .data, .data, .sentinel, .sentinel, .pinned], laidTests := true, laidLooks := .later }
def ScenarioErrorsCardSaid : Prop := Claim7.holds Tryz.pinned (.plain (OpenSpec.ofChange scenarioErrorsSpec)) scenarioErrorsCard

/-- THE SECOND FORM's CARD OF 'sheavelaw59.ScenarioErrors'. -/
def scenarioErrorsUptoCard : Claim7 := { stood := { row := scenarioErrorsUptoRow, standIns := [], harness := (true, "14aad01789317483cd63f276ddb14bbbcbce6ad6f7fd816dd921b05532258f1d"), looks := true }, kinds := [], alts := [], laidByText := true, laidKinds := [.data, .data, .data, .data, .sentinel, .sentinel, .pinned], laidTests := true, laidLooks := .later }
def ScenarioErrorsUptoCardSaid : Prop := Claim7.holds Tryz.pinned (.plain (OpenSpec.upto scenarioErrorsSpec)) scenarioErrorsUptoCard
end Rows
end Go.Proofs.YtfnljcallbalgaaGreatDoor
