/- Rules of runs and contracts of functions, for the claims of one seat. -/
import Derived.JoinedOf
import Derived.SevenTiedAt
import Derived.Test.YtgehafnodibhpaaGreatDoorRows
namespace Go.Proofs.YtgehafnodibhpaaGreatDoor
open Go
set_option maxRecDepth 100000
theorem pairErrors_goes : false = Rows.pairErrorsRow.goesBy Tryz.prog := by kernel_rfl
end Go.Proofs.YtgehafnodibhpaaGreatDoor

