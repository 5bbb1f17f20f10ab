/- Rules of runs and contracts of functions, for the claims of one seat. -/
import Derived.Test.YtdpeoolildjohaaGreatDoorQA27
import Derived.Test.YtdpeoolildjohaaGreatDoorTA37
namespace Go.Proofs.YtdpeoolildjohaaGreatDoor
open Go Go.RowKit
set_option maxRecDepth 100000
set_option maxHeartbeats 8000000
set_option linter.unusedSimpArgs false
set_option linter.unusedVariables false
def caseC (d : DraftD) (R ch : List Int) : List C := [.d (.sl 1 (dSets d.vs)), .d (.sl 1 (dSets d.now)), .d (.sl 1 (dSets d.tgt)), .d (.sl 6 (dLinks d.links)), .d (.sl 1 (dSets R)), .d (.sl 1 (dSets ch))]
end Go.Proofs.YtdpeoolildjohaaGreatDoor

