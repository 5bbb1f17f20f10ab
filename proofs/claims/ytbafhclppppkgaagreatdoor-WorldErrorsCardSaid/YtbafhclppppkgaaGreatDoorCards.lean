/-
  DERIVED. GIVEN WITH THE SEED: THE CARDS: each row of YtbafhclppppkgaaGreatDoorRows.lean that lists a variable, with what it lists TIED to the program's text (the seventh form; the later family's looks); each row that meets fmt, with fmt's text TOLD by the authors' own Lean function (tested against real Go, not proved from fmt's source: count such statements apart). THE CARD IS WHAT COUNTS. Prove the row's statement (the work); the ties are given (YtbafhclppppkgaaGreatDoorTie.lean); close each card by the builder's one call (the guide's Derived/Test/ToyasCard.lean, 'card_holds'). Laid BY PROGRAM, IN A SANDBOX (cutbox-door.mjs). By AI agents, Wed Nov 11 2026. No macro, syntax, notation, axiom, sorry.
-/
import Derived.Test.YtbafhclppppkgaaGreatDoorRows
import GoSem.ClaimSeven
namespace Go.Proofs.YtbafhclppppkgaaGreatDoor
namespace Rows

/-- THE TIED CARD OF 'sheavelaw55.WorldErrors'. -/
def worldErrorsCard : Claim7 := { stood := { row := worldErrorsRow, standIns := [], harness := (true, "8eb8d7aa3b2c43508546b0bfe24397eeda07164f0a44f8d4d96e5781eb6d4278"), looks := false }, kinds := [], alts := [], laidByText := true, laidKinds := [.data, .data, .data], laidTests := true, laidLooks := .later }
def WorldErrorsCardSaid : Prop := Claim7.holds Tryz.pinned (.plain (OpenSpec.ofChange worldErrorsSpec)) worldErrorsCard

/-- THE SECOND FORM's CARD OF 'sheavelaw55.WorldErrors'. -/
def worldErrorsUptoCard : Claim7 := { stood := { row := worldErrorsUptoRow, standIns := [], harness := (true, "8eb8d7aa3b2c43508546b0bfe24397eeda07164f0a44f8d4d96e5781eb6d4278"), looks := false }, kinds := [], alts := [], laidByText := true, laidKinds := [.data, .data, .data], laidTests := true, laidLooks := .later }
def WorldErrorsUptoCardSaid : Prop := Claim7.holds Tryz.pinned (.plain (OpenSpec.upto worldErrorsSpec)) worldErrorsUptoCard
end Rows
end Go.Proofs.YtbafhclppppkgaaGreatDoor
