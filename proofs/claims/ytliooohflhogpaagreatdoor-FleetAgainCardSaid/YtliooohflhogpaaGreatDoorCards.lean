/-
  DERIVED. GIVEN WITH THE SEED: THE CARDS: each row of YtliooohflhogpaaGreatDoorRows.lean that lists a variable, with what it lists TIED to the program's text (the seventh form; the later family's looks); each row that meets fmt, with fmt's text TOLD by the authors' own Lean function (tested against real Go, not proved from fmt's source: count such statements apart). THE CARD IS WHAT COUNTS. Prove the row's statement (the work); the ties are given (YtliooohflhogpaaGreatDoorTie.lean); close each card by the builder's one call (the guide's Derived/Test/ToyasCard.lean, 'card_holds'). Laid BY PROGRAM, IN A SANDBOX (cutbox-door.mjs). By AI agents, Wed Nov 11 2026. No macro, syntax, notation, axiom, sorry.
-/
import Derived.Test.YtliooohflhogpaaGreatDoorRows
import GoSem.ClaimSeven
namespace Go.Proofs.YtliooohflhogpaaGreatDoor
namespace Rows

/-- THE TIED CARD OF 'sheavelaw35.FleetErrors'. -/
def fleetErrorsCard : Claim7 := { stood := { row := fleetErrorsRow, standIns := [], harness := (true, "d0974475c159058cbd02631519bfd8bf232adf2ce19e33469ea6ca151d8a19b6"), looks := false }, kinds := [], alts := [], laidByText := true, laidKinds := [.data, .data, .data], laidTests := true, laidLooks := .later }
def FleetErrorsCardSaid : Prop := Claim7.holds Tryz.pinned (.plain (OpenSpec.ofChange fleetErrorsSpec)) fleetErrorsCard

/-- THE TIED CARD OF 'sheavelaw35.FleetRestrict'. -/
def fleetRestrictCard : Claim7 := { stood := { row := fleetRestrictRow, standIns := [], harness := (true, "d0974475c159058cbd02631519bfd8bf232adf2ce19e33469ea6ca151d8a19b6"), looks := false }, kinds := [], alts := [], laidByText := true, laidKinds := [.data, .data, .data], laidTests := true, laidLooks := .later }
def FleetRestrictCardSaid : Prop := Claim7.holds Tryz.pinned (.plain (OpenSpec.ofChange fleetRestrictSpec)) fleetRestrictCard

/-- THE TIED CARD OF 'sheavelaw35.FleetBetween'. -/
def fleetBetweenCard : Claim7 := { stood := { row := fleetBetweenRow, standIns := [], harness := (true, "d0974475c159058cbd02631519bfd8bf232adf2ce19e33469ea6ca151d8a19b6"), looks := false }, kinds := [], alts := [], laidByText := true, laidKinds := [.data, .data, .data], laidTests := true, laidLooks := .later }
def FleetBetweenCardSaid : Prop := Claim7.holds Tryz.pinned (.plain (OpenSpec.ofChange fleetBetweenSpec)) fleetBetweenCard

/-- THE TIED CARD OF 'sheavelaw35.FleetAgain'. -/
def fleetAgainCard : Claim7 := { stood := { row := fleetAgainRow, standIns := [], harness := (true, "d0974475c159058cbd02631519bfd8bf232adf2ce19e33469ea6ca151d8a19b6"), looks := false }, kinds := [], alts := [], laidByText := true, laidKinds := [.data, .data, .data], laidTests := true, laidLooks := .later }
def FleetAgainCardSaid : Prop := Claim7.holds Tryz.pinned (.plain (OpenSpec.ofChange fleetAgainSpec)) fleetAgainCard

/-- THE SECOND FORM's CARD OF 'sheavelaw35.FleetRestrict'. -/
def fleetRestrictUptoCard : Claim7 := { stood := { row := fleetRestrictUptoRow, standIns := [], harness := (true, "d0974475c159058cbd02631519bfd8bf232adf2ce19e33469ea6ca151d8a19b6"), looks := false }, kinds := [], alts := [], laidByText := true, laidKinds := [.data, .data, .data], laidTests := true, laidLooks := .later }
def FleetRestrictUptoCardSaid : Prop := Claim7.holds Tryz.pinned (.plain (OpenSpec.upto fleetRestrictSpec)) fleetRestrictUptoCard

/-- THE SECOND FORM's CARD OF 'sheavelaw35.FleetBetween'. -/
def fleetBetweenUptoCard : Claim7 := { stood := { row := fleetBetweenUptoRow, standIns := [], harness := (true, "d0974475c159058cbd02631519bfd8bf232adf2ce19e33469ea6ca151d8a19b6"), looks := false }, kinds := [], alts := [], laidByText := true, laidKinds := [.data, .data, .data], laidTests := true, laidLooks := .later }
def FleetBetweenUptoCardSaid : Prop := Claim7.holds Tryz.pinned (.plain (OpenSpec.upto fleetBetweenSpec)) fleetBetweenUptoCard

/-- THE SECOND FORM's CARD OF 'sheavelaw35.FleetAgain'. -/
def fleetAgainUptoCard : Claim7 := { stood := { row := fleetAgainUptoRow, standIns := [], harness := (true, "d0974475c159058cbd02631519bfd8bf232adf2ce19e33469ea6ca151d8a19b6"), looks := false }, kinds := [], alts := [], laidByText := true, laidKinds := [.data, .data, .data], laidTests := true, laidLooks := .later }
def FleetAgainUptoCardSaid : Prop := Claim7.holds Tryz.pinned (.plain (OpenSpec.upto fleetAgainSpec)) fleetAgainUptoCard
end Rows
end Go.Proofs.YtliooohflhogpaaGreatDoor
