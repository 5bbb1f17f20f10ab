/- Rules of runs and contracts of functions, for the claims of one seat. -/
import Derived.Test.YtdpeoolildjohaaGreatDoorQA14
import Derived.Test.YtdpeoolildjohaaGreatDoorQA27
import Derived.Test.YtdpeoolildjohaaGreatDoorTA39
namespace Go.Proofs.YtdpeoolildjohaaGreatDoor
open Go Go.RowKit
set_option maxRecDepth 100000
set_option maxHeartbeats 8000000
set_option linter.unusedSimpArgs false
set_option linter.unusedVariables false
theorem newP_bad {p : Prob} {rs : List Int} {l : List StepD} (h : ¬ setErr p rs = 0) : newP p rs l = (nilCtl, setErr p rs) := by unfold newP; rw [if_pos h]
theorem newP_un {p : Prob} {rs : List Int} {l : List StepD} (h : setErr p rs = 0) (hc : checkP p l = false) : newP p rs l = (nilCtl, 13) := by unfold newP; rw [if_neg (by simpa using h), if_pos hc]
theorem pnewA_fn (p : Prob) (rs : List Int) (l : List StepD) (hv : vpErr p = 0) (hr : rs.length ≤ 1000000) (hl : l.length ≤ 1000000) : FnSound Tryz.prog 13 [.val true (probC p), .val false [.d (.sl 1 (dInts rs))], .val false [.d (.sl 3 (dSteps l))]] [] { vals := [(true, ctlC (newP p rs l).1), (false, [.d (.v (.int .i64 (newP p rs l).2))])] } := by
 by_cases hs : setErr p rs = 0
 ·cases hc : checkP p l with
  | true =>
   have := pnew_fn p rs l hs hc hl
   rw [(newP_k hs hc).2.2.2]
   exact this
  | false =>
   have hst := psetting_fn p rs hr
   rw [hs] at hst
   have hk := pcheck_fn p l hv hl
   rw [hc] at hk
   rw [newP_un hs hc]
   refine startW (tm := [(0, _), (1, _), (2, _)]) Tryz.func13 rfl Tryz.ntmps13 rfl rfl rfl rfl ?_
   repeat' (first
 |(with_reducible refine K_ca 45 ?_); refine zC (hst) ?_
 |(with_reducible refine K_ca 46 ?_); refine zC (hk) ?_
 |refine wA ?_
 |(refine wC ?_ ?_ <;> intro hc)
 |refine wB ?_ ?_
 |(with_reducible refine JL.block ?_)
 |(with_reducible refine F_at ?_); refine eW (vs := [(_, _), (_, _)]) Tryz.results13 ?_; (focus (repeat' (first | exact oA | refine oB ?_ | refine oC ?_ ?_ | fail)))
 |exact oM
 |fail)
   all_goals first | rfl | trace_state
 ·have hst := psetting_fn p rs hr
  rw [newP_bad hs]
  refine startW (tm := [(0, _), (1, _), (2, _)]) Tryz.func13 rfl Tryz.ntmps13 rfl rfl rfl rfl ?_
  repeat' (first
 |(with_reducible refine K_ca 45 ?_); refine zC (hst) ?_
 |refine wA ?_
 |(refine wC ?_ ?_ <;> intro hc)
 |refine wB ?_ ?_
 |(with_reducible refine JL.block ?_)
 |(with_reducible refine F_at ?_); refine eW (vs := [(_, _), (_, _)]) Tryz.results13 ?_; (focus (repeat' (first | exact oA | refine oB ?_ | refine oC ?_ ?_ | fail)))
 |exact oM
 |fail)
  all_goals first | rfl | (exfalso; omega) | trace_state
theorem pscript0_fn (p : Prob) (l : List StepD) (h : vpErr p = 0) (hc : checkP p l = false) (hl : l.length ≤ 1000000) : FnSound Tryz.prog 51 [.val true (probC p), .val false [.d (.sl 3 (dSteps l))]] [] { vals := [(true, [.d (.sl 1 []), .d (.sl 1 []), .d (.sl 1 []), .d (.sl 6 []), .d (.sl 3 []), .d (.sl 3 [])]), (false, [.d (.v (.int .i64 13))])] } := by
 have hk := pcheck_fn p l h hl
 rw [hc] at hk
 refine startW (tm := [(0, _), (1, _)]) Tryz.func51 rfl Tryz.ntmps51 rfl rfl rfl rfl ?_
 repeat' (first
 |(with_reducible refine K_ca 77 ?_); refine zC (pvpOK_fn h) ?_
 |(with_reducible refine K_ca 46 ?_); refine zC (hk) ?_
 |refine wA ?_
 |(refine wC ?_ ?_ <;> intro hc)
 |refine wB ?_ ?_
 |(with_reducible refine JL.block ?_)
 |(with_reducible refine F_at ?_); refine eW (vs := [(_, _), (_, _)]) Tryz.results51 ?_; (focus (repeat' (first | exact oA | refine oB ?_ | refine oC ?_ ?_ | fail)))
 |exact oM
 |fail)
 all_goals first | rfl | trace_state
theorem pexpected_fn (p : Prob) (l : List StepD) (a ph : Int) (h : vpErr p = 0) (hl : l.length ≤ 1000000) : FnSound Tryz.prog 34 [.val true (probC p), .val false [.d (.sl 3 (dSteps l))], .val false [.d (.v (.int .i64 a))], .val false [.d (.v (.int .i64 ph))]] [] { vals := [(true, mixC (expectP p l a ph).1), (false, [.d (.v (.int .i64 (expectP p l a ph).2))])] } := by
 cases hc : checkP p l with
 | true =>
  have h1 := pscript_fn p l h hc hl
  have h2 := psexpect_fn p l a ph h hc hl
  generalize expectP p l a ph = x at *
  refine startW (tm := [(0, _), (1, _), (2, _), (3, _)]) Tryz.func34 rfl Tryz.ntmps34 rfl rfl rfl rfl ?_
  repeat' (first
 |(with_reducible refine K_ca 51 ?_); refine zC (h1) ?_
 |(with_reducible refine K_ca 52 ?_); refine zC (h2) ?_
 |refine wA ?_
 |(refine wC ?_ ?_ <;> intro hc)
 |refine wB ?_ ?_
 |(with_reducible refine JL.block ?_)
 |(with_reducible refine F_at ?_); refine eW (vs := [(_, _), (_, _)]) Tryz.results34 ?_; (focus (repeat' (first | exact oA | refine oB ?_ | refine oC ?_ ?_ | fail)))
 |exact oM
 |fail)
  all_goals first | rfl | trace_state
 | false =>
  have h1 := pscript0_fn p l h hc hl
  have e : expectP p l a ph = (nilM, 13) := by unfold expectP; rw [if_neg (by simpa using h), if_pos hc]
  rw [e]
  refine startW (tm := [(0, _), (1, _), (2, _), (3, _)]) Tryz.func34 rfl Tryz.ntmps34 rfl rfl rfl rfl ?_
  repeat' (first
 |(with_reducible refine K_ca 51 ?_); refine zC (h1) ?_
 |refine wA ?_
 |(refine wC ?_ ?_ <;> intro hc)
 |refine wB ?_ ?_
 |(with_reducible refine JL.block ?_)
 |(with_reducible refine F_at ?_); refine eW (vs := [(_, _), (_, _)]) Tryz.results34 ?_; (focus (repeat' (first | exact oA | refine oB ?_ | refine oC ?_ ?_ | fail)))
 |exact oM
 |fail)
  all_goals first | rfl | trace_state
end Go.Proofs.YtdpeoolildjohaaGreatDoor

