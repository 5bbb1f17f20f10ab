/-
  DERIVED. GIVEN WITH THE SEED: THE CARDS: each row of YtdpeoolildjohaaGreatDoorRows.lean that lists a variable, with what it lists TIED to the program's text (the seventh form; the later family's looks); each row that meets fmt, with fmt's text TOLD by the authors' own Lean function (tested against real Go, not proved from fmt's source: count such statements apart). THE CARD IS WHAT COUNTS. Prove the row's statement (the work); the ties are given (YtdpeoolildjohaaGreatDoorTie.lean); close each card by the builder's one call (the guide's Derived/Test/ToyasCard.lean, 'card_holds'). Laid BY PROGRAM, IN A SANDBOX (cutbox-door.mjs). By AI agents, Wed Nov 11 2026. No macro, syntax, notation, axiom, sorry.
-/
import Derived.Test.YtdpeoolildjohaaGreatDoorRows
import GoSem.ClaimSeven
namespace Go.Proofs.YtdpeoolildjohaaGreatDoor
namespace Rows

/-- THE TIED CARD OF 'sheavelaw53.ControllerNew'. -/
def controllerNewCard : Claim7 := { stood := { row := controllerNewRow, standIns := [], harness := (true, "998d271f4c195fbaa1bd6f88228b9e5b63243f19f1bf69c347bcb094e84401da"), looks := false }, kinds := [], alts := [], laidByText := true, laidKinds := [.data, .data, .data], laidTests := true, laidLooks := .later }
def ControllerNewCardSaid : Prop := Claim7.holds Tryz.pinned (.plain (OpenSpec.ofChange controllerNewSpec)) controllerNewCard

/-- THE TIED CARD OF 'sheavelaw53.ControllerRun'. -/
def controllerRunCard : Claim7 := { stood := { row := controllerRunRow, standIns := [], harness := (true, "998d271f4c195fbaa1bd6f88228b9e5b63243f19f1bf69c347bcb094e84401da"), looks := false }, kinds := [], alts := [], laidByText := true, laidKinds := [.data, .data, .data], laidTests := true, laidLooks := .later }
def ControllerRunCardSaid : Prop := Claim7.holds Tryz.pinned (.plain (OpenSpec.ofChange controllerRunSpec)) controllerRunCard

/-- THE TIED CARD OF 'sheavelaw53.ControllerSafe'. -/
def controllerSafeCard : Claim7 := { stood := { row := controllerSafeRow, standIns := [], harness := (true, "998d271f4c195fbaa1bd6f88228b9e5b63243f19f1bf69c347bcb094e84401da"), looks := false }, kinds := [], alts := [], laidByText := true, laidKinds := [.data, .data, .data], laidTests := true, laidLooks := .later }
def ControllerSafeCardSaid : Prop := Claim7.holds Tryz.pinned (.plain (OpenSpec.ofChange controllerSafeSpec)) controllerSafeCard

/-- THE TIED CARD OF 'sheavelaw53.ControllerFinish'. -/
def controllerFinishCard : Claim7 := { stood := { row := controllerFinishRow, standIns := [], harness := (true, "998d271f4c195fbaa1bd6f88228b9e5b63243f19f1bf69c347bcb094e84401da"), looks := false }, kinds := [], alts := [], laidByText := true, laidKinds := [.data, .data, .data], laidTests := true, laidLooks := .later }
def ControllerFinishCardSaid : Prop := Claim7.holds Tryz.pinned (.plain (OpenSpec.ofChange controllerFinishSpec)) controllerFinishCard

/-- THE TIED CARD OF 'sheavelaw53.ControllerToken'. -/
def controllerTokenCard : Claim7 := { stood := { row := controllerTokenRow, standIns := [], harness := (true, "998d271f4c195fbaa1bd6f88228b9e5b63243f19f1bf69c347bcb094e84401da"), looks := false }, kinds := [], alts := [], laidByText := true, laidKinds := [.data, .data, .data], laidTests := true, laidLooks := .later }
def ControllerTokenCardSaid : Prop := Claim7.holds Tryz.pinned (.plain (OpenSpec.ofChange controllerTokenSpec)) controllerTokenCard

/-- THE TIED CARD OF 'sheavelaw53.ControllerStep'. -/
def controllerStepCard : Claim7 := { stood := { row := controllerStepRow, standIns := [], harness := (true, "998d271f4c195fbaa1bd6f88228b9e5b63243f19f1bf69c347bcb094e84401da"), looks := false }, kinds := [], alts := [], laidByText := true, laidKinds := [.data, .data, .data], laidTests := true, laidLooks := .later }
def ControllerStepCardSaid : Prop := Claim7.holds Tryz.pinned (.plain (OpenSpec.ofChange controllerStepSpec)) controllerStepCard

/-- THE TIED CARD OF 'sheavelaw53.ControllerExpected'. -/
def controllerExpectedCard : Claim7 := { stood := { row := controllerExpectedRow, standIns := [], harness := (true, "998d271f4c195fbaa1bd6f88228b9e5b63243f19f1bf69c347bcb094e84401da"), looks := false }, kinds := [], alts := [], laidByText := true, laidKinds := [.data, .data, .data], laidTests := true, laidLooks := .later }
def ControllerExpectedCardSaid : Prop := Claim7.holds Tryz.pinned (.plain (OpenSpec.ofChange controllerExpectedSpec)) controllerExpectedCard

/-- THE SECOND FORM's CARD OF 'sheavelaw53.ControllerNew'. -/
def controllerNewUptoCard : Claim7 := { stood := { row := controllerNewUptoRow, standIns := [], harness := (true, "998d271f4c195fbaa1bd6f88228b9e5b63243f19f1bf69c347bcb094e84401da"), looks := false }, kinds := [], alts := [], laidByText := true, laidKinds := [.data, .data, .data], laidTests := true, laidLooks := .later }
def ControllerNewUptoCardSaid : Prop := Claim7.holds Tryz.pinned (.plain (OpenSpec.upto controllerNewSpec)) controllerNewUptoCard

/-- THE SECOND FORM's CARD OF 'sheavelaw53.ControllerRun'. -/
def controllerRunUptoCard : Claim7 := { stood := { row := controllerRunUptoRow, standIns := [], harness := (true, "998d271f4c195fbaa1bd6f88228b9e5b63243f19f1bf69c347bcb094e84401da"), looks := false }, kinds := [], alts := [], laidByText := true, laidKinds := [.data, .data, .data], laidTests := true, laidLooks := .later }
def ControllerRunUptoCardSaid : Prop := Claim7.holds Tryz.pinned (.plain (OpenSpec.upto controllerRunSpec)) controllerRunUptoCard

/-- THE SECOND FORM's CARD OF 'sheavelaw53.ControllerSafe'. -/
def controllerSafeUptoCard : Claim7 := { stood := { row := controllerSafeUptoRow, standIns := [], harness := (true, "998d271f4c195fbaa1bd6f88228b9e5b63243f19f1bf69c347bcb094e84401da"), looks := false }, kinds := [], alts := [], laidByText := true, laidKinds := [.data, .data, .data], laidTests := true, laidLooks := .later }
def ControllerSafeUptoCardSaid : Prop := Claim7.holds Tryz.pinned (.plain (OpenSpec.upto controllerSafeSpec)) controllerSafeUptoCard

/-- THE SECOND FORM's CARD OF 'sheavelaw53.ControllerFinish'. -/
def controllerFinishUptoCard : Claim7 := { stood := { row := controllerFinishUptoRow, standIns := [], harness := (true, "998d271f4c195fbaa1bd6f88228b9e5b63243f19f1bf69c347bcb094e84401da"), looks := false }, kinds := [], alts := [], laidByText := true, laidKinds := [.data, .data, .data], laidTests := true, laidLooks := .later }
def ControllerFinishUptoCardSaid : Prop := Claim7.holds Tryz.pinned (.plain (OpenSpec.upto controllerFinishSpec)) controllerFinishUptoCard

/-- THE SECOND FORM's CARD OF 'sheavelaw53.ControllerToken'. -/
def controllerTokenUptoCard : Claim7 := { stood := { row := controllerTokenUptoRow, standIns := [], harness := (true, "998d271f4c195fbaa1bd6f88228b9e5b63243f19f1bf69c347bcb094e84401da"), looks := false }, kinds := [], alts := [], laidByText := true, laidKinds := [.data, .data, .data], laidTests := true, laidLooks := .later }
def ControllerTokenUptoCardSaid : Prop := Claim7.holds Tryz.pinned (.plain (OpenSpec.upto controllerTokenSpec)) controllerTokenUptoCard

/-- THE SECOND FORM's CARD OF 'sheavelaw53.ControllerStep'. -/
def controllerStepUptoCard : Claim7 := { stood := { row := controllerStepUptoRow, standIns := [], harness := (true, "998d271f4c195fbaa1bd6f88228b9e5b63243f19f1bf69c347bcb094e84401da"), looks := false }, kinds := [], alts := [], laidByText := true, laidKinds := [.data, .data, .data], laidTests := true, laidLooks := .later }
def ControllerStepUptoCardSaid : Prop := Claim7.holds Tryz.pinned (.plain (OpenSpec.upto controllerStepSpec)) controllerStepUptoCard

/-- THE SECOND FORM's CARD OF 'sheavelaw53.ControllerExpected'. -/
def controllerExpectedUptoCard : Claim7 := { stood := { row := controllerExpectedUptoRow, standIns := [], harness := (true, "998d271f4c195fbaa1bd6f88228b9e5b63243f19f1bf69c347bcb094e84401da"), looks := false }, kinds := [], alts := [], laidByText := true, laidKinds := [.data, .data, .data], laidTests := true, laidLooks := .later }
def ControllerExpectedUptoCardSaid : Prop := Claim7.holds Tryz.pinned (.plain (OpenSpec.upto controllerExpectedSpec)) controllerExpectedUptoCard
end Rows
end Go.Proofs.YtdpeoolildjohaaGreatDoor
