/-
  The law FleetEqual as a contract: it returns true.
-/
import Derived.Test.YtliooohflhogpaaGreatDoorFlH
import Derived.Test.YtliooohflhogpaaGreatDoorFlG
import Derived.Test.YtliooohflhogpaaGreatDoorFlW
namespace Go.Proofs.YtliooohflhogpaaGreatDoor
open Go Go.RowKit
set_option maxRecDepth 100000
set_option maxHeartbeats 4000000
set_option linter.unusedSimpArgs false
set_option linter.unusedVariables false
theorem fleetEqual_fn' (a b : Prob) (hx : probSm a) (hy : probSm b) : FnSound Tryz.prog 14 [.val true (probC b), .val true (probC a)] [] { vals := [(false, [.d (.v (.bool (eqProb a b)))])] } := by
  have := fleetEqual_fn b a hy hx
  rwa [eqProb_symm b a] at this
end Go.Proofs.YtliooohflhogpaaGreatDoor
