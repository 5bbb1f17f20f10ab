/-
  DERIVED. GIVEN WITH THE SEED: THE CARDS: each row of YtnaknldbmapolaaGreatDoorRows.lean that lists a variable, with what it lists TIED to the program's text (the seventh form; the later family's looks); each row that meets fmt, with fmt's text TOLD by the authors' own Lean function (tested against real Go, not proved from fmt's source: count such statements apart). THE CARD IS WHAT COUNTS. Prove the row's statement (the work); the ties are given (YtnaknldbmapolaaGreatDoorTie.lean); close each card by the builder's one call (the guide's Derived/Test/ToyasCard.lean, 'card_holds'). Laid BY PROGRAM, IN A SANDBOX (cutbox-door.mjs). By AI agents, Wed Nov 11 2026. No macro, syntax, notation, axiom, sorry.
-/
import Derived.Test.YtnaknldbmapolaaGreatDoorRows
import GoSem.ClaimSeven
namespace Go.Proofs.YtnaknldbmapolaaGreatDoor
namespace Rows

/-- THE TIED CARD OF 'sheavelaw35.FleetErrors'. -/
def fleetErrorsCard : Claim7 := { stood := { row := fleetErrorsRow, standIns := [], harness := (true, "82b1112ee2003060d383fe0b2a4362185ec7f89acf3dcefc88beea6c9ef126a8"), looks := false }, kinds := [], alts := [], laidByText := true, laidKinds := [.data, .data, .data], laidTests := true, laidLooks := .later }
def FleetErrorsCardSaid : Prop := Claim7.holds Tryz.pinned (.plain (OpenSpec.ofChange fleetErrorsSpec)) fleetErrorsCard

/-- THE TIED CARD OF 'sheavelaw35.FleetRestrict'. -/
def fleetRestrictCard : Claim7 := { stood := { row := fleetRestrictRow, standIns := [], harness := (true, "82b1112ee2003060d383fe0b2a4362185ec7f89acf3dcefc88beea6c9ef126a8"), looks := false }, kinds := [], alts := [], laidByText := true, laidKinds := [.data, .data, .data], laidTests := true, laidLooks := .later }
def FleetRestrictCardSaid : Prop := Claim7.holds Tryz.pinned (.plain (OpenSpec.ofChange fleetRestrictSpec)) fleetRestrictCard

/-- THE TIED CARD OF 'sheavelaw35.FleetBetween'. -/
def fleetBetweenCard : Claim7 := { stood := { row := fleetBetweenRow, standIns := [], harness := (true, "82b1112ee2003060d383fe0b2a4362185ec7f89acf3dcefc88beea6c9ef126a8"), looks := false }, kinds := [], alts := [], laidByText := true, laidKinds := [.data, .data, .data], laidTests := true, laidLooks := .later }
def FleetBetweenCardSaid : Prop := Claim7.holds Tryz.pinned (.plain (OpenSpec.ofChange fleetBetweenSpec)) fleetBetweenCard

/-- THE TIED CARD OF 'sheavelaw35.FleetEqual'. -/
def fleetEqualCard : Claim7 := { stood := { row := fleetEqualRow, standIns := [], harness := (true, "82b1112ee2003060d383fe0b2a4362185ec7f89acf3dcefc88beea6c9ef126a8"), looks := false }, kinds := [], alts := [], laidByText := true, laidKinds := [.data, .data, .data], laidTests := true, laidLooks := .later }
def FleetEqualCardSaid : Prop := Claim7.holds Tryz.pinned (.plain (OpenSpec.ofChange fleetEqualSpec)) fleetEqualCard

/-- THE TIED CARD OF 'sheavelaw35.FleetAgain'. -/
def fleetAgainCard : Claim7 := { stood := { row := fleetAgainRow, standIns := [], harness := (true, "82b1112ee2003060d383fe0b2a4362185ec7f89acf3dcefc88beea6c9ef126a8"), looks := false }, kinds := [], alts := [], laidByText := true, laidKinds := [.data, .data, .data], laidTests := true, laidLooks := .later }
def FleetAgainCardSaid : Prop := Claim7.holds Tryz.pinned (.plain (OpenSpec.ofChange fleetAgainSpec)) fleetAgainCard

/-- THE SECOND FORM's CARD OF 'sheavelaw35.FleetErrors'. -/
def fleetErrorsUptoCard : Claim7 := { stood := { row := fleetErrorsUptoRow, standIns := [], harness := (true, "82b1112ee2003060d383fe0b2a4362185ec7f89acf3dcefc88beea6c9ef126a8"), looks := false }, kinds := [], alts := [], laidByText := true, laidKinds := [.data, .data, .data], laidTests := true, laidLooks := .later }
def FleetErrorsUptoCardSaid : Prop := Claim7.holds Tryz.pinned (.plain (OpenSpec.upto fleetErrorsSpec)) fleetErrorsUptoCard

/-- THE SECOND FORM's CARD OF 'sheavelaw35.FleetAgain'. -/
def fleetAgainUptoCard : Claim7 := { stood := { row := fleetAgainUptoRow, standIns := [], harness := (true, "82b1112ee2003060d383fe0b2a4362185ec7f89acf3dcefc88beea6c9ef126a8"), looks := false }, kinds := [], alts := [], laidByText := true, laidKinds := [.data, .data, .data], laidTests := true, laidLooks := .later }
def FleetAgainUptoCardSaid : Prop := Claim7.holds Tryz.pinned (.plain (OpenSpec.upto fleetAgainSpec)) fleetAgainUptoCard
end Rows
end Go.Proofs.YtnaknldbmapolaaGreatDoor
