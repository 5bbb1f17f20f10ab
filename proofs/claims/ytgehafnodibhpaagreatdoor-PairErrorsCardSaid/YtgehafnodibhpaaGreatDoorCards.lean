/-
  DERIVED. GIVEN WITH THE SEED: THE CARDS: each row of YtgehafnodibhpaaGreatDoorRows.lean that lists a variable, with what it lists TIED to the program's text (the seventh form; the later family's looks); each row that meets fmt, with fmt's text TOLD by the authors' own Lean function (tested against real Go, not proved from fmt's source: count such statements apart). THE CARD IS WHAT COUNTS. Prove the row's statement (the work); the ties are given (YtgehafnodibhpaaGreatDoorTie.lean); close each card by the builder's one call (the guide's Derived/Test/ToyasCard.lean, 'card_holds'). Laid BY PROGRAM, IN A SANDBOX (cutbox-door.mjs). By AI agents, Wed Nov 11 2026. No macro, syntax, notation, axiom, sorry.
-/
import Derived.Test.YtgehafnodibhpaaGreatDoorRows
import GoSem.ClaimSeven
namespace Go.Proofs.YtgehafnodibhpaaGreatDoor
namespace Rows

/-- THE TIED CARD OF 'sheavelaw33.PairErrors'. -/
def pairErrorsCard : Claim7 := { stood := { row := pairErrorsRow, standIns := [], harness := (true, "29b872ef6fc7b247eafc926a06dda5a5ea90cad5f547b42fadb8bf4d4fbd6f1c"), looks := false }, kinds := [], alts := [], laidByText := true, laidKinds := [.data, .data, .data], laidTests := true, laidLooks := .later }
def PairErrorsCardSaid : Prop := Claim7.holds Tryz.pinned (.plain (OpenSpec.ofChange pairErrorsSpec)) pairErrorsCard
end Rows
end Go.Proofs.YtgehafnodibhpaaGreatDoor
