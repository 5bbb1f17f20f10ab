/- Rules of runs and contracts of functions, for the claims of one seat. -/
import Derived.Test.YtjpdemikmdfonaaGreatDoorFA15
import Derived.Test.YtjpdemikmdfonaaGreatDoorFA37
import Derived.Test.YtjpdemikmdfonaaGreatDoorFA39
namespace Go.Proofs.YtjpdemikmdfonaaGreatDoor
open Go Go.RowKit
set_option maxRecDepth 100000
set_option maxHeartbeats 8000000
set_option linter.unusedSimpArgs false
set_option linter.unusedVariables false
theorem awakeF_fn : FnSound Tryz.prog 4 [] [] { vals := [(false, [.d (.v (.bool true))])] } := annT_ok T48_ok 40 _ _ _ _ awake_run
theorem fleetValid_law (s : List SrvD) (l : List LnkD) (h : SmF s l) : FnSound Tryz.prog 3 [.val true (fltC s l)] [] { vals := [(false, [.d (.v (.bool true))])] } := by
 have h1 := rsmall_fn s l h
 have h2 := rfvalid_fn s l h
 have h3 := pfvalid_fn s l h
 generalize smallF s l = b at h1
 generalize fltErr s l = e at h2 h3
 refine startW (tm := [(0, _)]) Tryz.func3 rfl Tryz.ntmps3 rfl rfl rfl rfl ?_
 repeat' (first
 |(with_reducible refine K_ca 4 ?_); refine zC (awakeF_fn) ?_
 |(with_reducible refine K_ca 5 ?_); refine zC (h1) ?_
 |(with_reducible refine K_ca 6 ?_); refine zC (h3) ?_
 |(with_reducible refine K_ca 7 ?_); refine zC (h2) ?_
 |refine wA ?_
 |(refine wC ?_ ?_ <;> intro hc)
 |refine wB ?_ ?_
 |(with_reducible refine JL.block ?_)
 |(with_reducible refine F_at ?_); refine eW (vs := [(_, _)]) Tryz.results3 ?_; (focus (repeat' (first | exact oA | refine oB ?_ | refine oC ?_ ?_ | fail)))
 |exact oM
 |fail)
 all_goals first | rfl | (exfalso; omega) | (simp; done) | trace_state
end Go.Proofs.YtjpdemikmdfonaaGreatDoor

