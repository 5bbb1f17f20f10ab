/- Rules of runs and contracts of functions, for the claims of one seat. -/
import Derived.JoinedOf
import Derived.SevenTiedAt
import Derived.Test.YtfnljcallbalgaaGreatDoorRows
namespace Go.Proofs.YtfnljcallbalgaaGreatDoor
open Go
set_option maxRecDepth 100000
theorem scenarioErrors_goes : false = Rows.scenarioErrorsRow.goesBy Tryz.prog := by kernel_rfl
end Go.Proofs.YtfnljcallbalgaaGreatDoor

