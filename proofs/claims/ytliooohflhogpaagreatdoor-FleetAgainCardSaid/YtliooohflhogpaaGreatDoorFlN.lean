/-
  Sizes of arguments, for the rows.
-/
import Derived.Test.YtliooohflhogpaaGreatDoorRowD
import Derived.Test.YtliooohflhogpaaGreatDoorFlW
namespace Go.Proofs.YtliooohflhogpaaGreatDoor
open Go Go.RowKit
set_option linter.unusedSimpArgs false
set_option linter.unusedVariables false
theorem le_of {n : Nat} (h : n ≤ reachBytes) : n ≤ 4611686018427387904 := by unfold reachBytes at h; omega
theorem matSm_of {m : List (List Bool)} (h : MatSm m) : matSm m := ⟨le_of h.1, fun r hr => le_of (h.2 r hr)⟩
theorem sm_of {p : Prob} (h : ProbSm p) : probSm p := ⟨le_of h.1, le_of h.2.1, le_of h.2.2.1, le_of h.2.2.2.1, fun t ht => ⟨matSm_of (h.2.2.2.2 t ht).1, matSm_of (h.2.2.2.2 t ht).2⟩⟩
end Go.Proofs.YtliooohflhogpaaGreatDoor
