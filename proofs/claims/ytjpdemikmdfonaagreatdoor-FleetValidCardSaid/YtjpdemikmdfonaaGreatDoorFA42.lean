/- Rules of runs and contracts of functions, for the claims of one seat. -/
import Derived.JoinedOf
import Derived.SevenTiedAt
import Derived.Test.YtjpdemikmdfonaaGreatDoorRows
namespace Go.Proofs.YtjpdemikmdfonaaGreatDoor
open Go
set_option maxRecDepth 100000
theorem fleetValid_goes : false = Rows.fleetValidRow.goesBy Tryz.prog := by kernel_rfl
end Go.Proofs.YtjpdemikmdfonaaGreatDoor

