/-
  DERIVED. GIVEN WITH THE SEED: THE CARDS: each row of YtfpcpjnmffbhgaaDoorRows.lean that lists a variable, with what it lists TIED to the program's text (the seventh form; the later family's looks); each row that meets fmt, with fmt's text TOLD by the authors' own Lean function (tested against real Go, not proved from fmt's source: count such statements apart). THE CARD IS WHAT COUNTS. Prove the row's statement (the work); the ties are given (YtfpcpjnmffbhgaaDoorTie.lean); close each card by the builder's one call (the guide's Derived/Test/ToyasCard.lean, 'card_holds'). Laid BY PROGRAM, IN A SANDBOX (cutbox-door.mjs). By AI agents, Wed Nov 11 2026. No macro, syntax, notation, axiom, sorry.
-/
import Derived.Test.YtfpcpjnmffbhgaaDoorRows
import GoSem.ClaimSeven
namespace Go.Proofs.YtfpcpjnmffbhgaaDoor
namespace Rows

/-- THE TIED CARD OF 'sheavelaw53.ControllerStatus'. -/
def controllerStatusCard : Claim7 := { stood := { row := controllerStatusRow, standIns := [], harness := (true, "f529f8affcbc8728c1e71f5e1def507feb07dcb41e6562cabef1e16600afdb82"), looks := false }, kinds := [], alts := [], laidByText := true, laidKinds := [.data, .data, .data], laidTests := true, laidLooks := .later }
def ControllerStatusCardSaid : Prop := Claim7.holds Tryd.pinned (.plain (OpenSpec.ofChange controllerStatusSpec)) controllerStatusCard

/-- THE SECOND FORM's CARD OF 'sheavelaw53.ControllerStatus'. -/
def controllerStatusUptoCard : Claim7 := { stood := { row := controllerStatusUptoRow, standIns := [], harness := (true, "f529f8affcbc8728c1e71f5e1def507feb07dcb41e6562cabef1e16600afdb82"), looks := false }, kinds := [], alts := [], laidByText := true, laidKinds := [.data, .data, .data], laidTests := true, laidLooks := .later }
def ControllerStatusUptoCardSaid : Prop := Claim7.holds Tryd.pinned (.plain (OpenSpec.upto controllerStatusSpec)) controllerStatusUptoCard
end Rows
end Go.Proofs.YtfpcpjnmffbhgaaDoor
