/-
  DERIVED. GIVEN WITH THE SEED: THE CARDS: each row of YtjpdemikmdfonaaGreatDoorRows.lean that lists a variable, with what it lists TIED to the program's text (the seventh form; the later family's looks); each row that meets fmt, with fmt's text TOLD by the authors' own Lean function (tested against real Go, not proved from fmt's source: count such statements apart). THE CARD IS WHAT COUNTS. Prove the row's statement (the work); the ties are given (YtjpdemikmdfonaaGreatDoorTie.lean); close each card by the builder's one call (the guide's Derived/Test/ToyasCard.lean, 'card_holds'). Laid BY PROGRAM, IN A SANDBOX (cutbox-door.mjs). By AI agents, Wed Nov 11 2026. No macro, syntax, notation, axiom, sorry.
-/
import Derived.Test.YtjpdemikmdfonaaGreatDoorRows
import GoSem.ClaimSeven
namespace Go.Proofs.YtjpdemikmdfonaaGreatDoor
namespace Rows

/-- THE TIED CARD OF 'sheavelaw35.FleetValid'. -/
def fleetValidCard : Claim7 := { stood := { row := fleetValidRow, standIns := [], harness := (true, "8ea09f5b665ea9d28fdf39f6bed83777ba5d7f298dc5b8242361339e01cbbdcd"), looks := false }, kinds := [], alts := [], laidByText := true, laidKinds := [.data, .data, .data], laidTests := true, laidLooks := .later }
def FleetValidCardSaid : Prop := Claim7.holds Tryz.pinned (.plain (OpenSpec.ofChange fleetValidSpec)) fleetValidCard
end Rows
end Go.Proofs.YtjpdemikmdfonaaGreatDoor
