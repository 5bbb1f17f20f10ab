/- Rules of runs and contracts of functions, for the claims of one seat. -/
import Derived.Test.YtfnljcallbalgaaGreatDoorUA13
import Derived.Test.YtfnljcallbalgaaGreatDoorUA25
namespace Go.Proofs.YtfnljcallbalgaaGreatDoor
open Go Go.RowKit
set_option maxRecDepth 100000
set_option maxHeartbeats 8000000
set_option linter.unusedSimpArgs false
set_option linter.unusedVariables false
def setupC (p : Prob) (rs : List Int) (l : List StepD) (ttl : Int) : List C := [.d (.sl 1 (dInts p.vs)), .d (.sl 1 (dInts p.now)), .d (.sl 1 (dInts p.tgt)), .d (.sl 6 (dTabs p.tabs)), .d (.sl 1 (dInts rs)), .d (.sl 3 (dSteps l)), .d (.v (.int .i64 ttl))]
def worldErr (p : Prob) (rs : List Int) (l : List StepD) (ttl : Int) : Int :=
 if ¬ (newP p rs l).2 = 0 then (newP p rs l).2 else if 18 < (repsL p rs rs.length).length then 3 else if ttl < 1 ∨ 1000 < ttl then 7 else 0
def splRow : List D := [.sl 0 [], .v (.int .i64 1), .v (.int .i64 0)]
theorem repSpl_fn (n : Nat) (h : n ≤ 14) : FnSound Tryz.prog 56 [.val false [.d (.sl 3 [splRow])], .val false [.d (.v (.int .i64 (n : Int)))]] [] { vals := [(false, [.own (0, 1)])], bx := [((0, 1), .sl 76 3 (List.replicate n splRow))] } :=
 repeatSpl_fn (by
  unfold repeatN
  show (if 3 = 3 ∧ splRow.length = 3 ∧ 0 ≤ (n : Int) ∧ (n : Int) ≤ 14 then _ else _) = _
  rw [if_pos ⟨rfl, rfl, by omega, by omega⟩, Int.toNat_natCast])
theorem newP_s {p : Prob} {rs : List Int} {l : List StepD} (h : (newP p rs l).2 = 0) : setErr p rs = 0 := Classical.byContradiction fun g => g (by rw [newP_bad g] at h; exact h)
theorem pworld_no (p : Prob) (rs : List Int) (l : List StepD) (ttl : Int) (hr : rs.length ≤ 1000000) (hl : l.length ≤ 1000000) (h : ¬ worldErr p rs l ttl = 0) : FnSound Tryz.prog 18 [.val true (setupC p rs l ttl)] [] { vals := [(false, [.d (.v (.pointer none))]), (false, [.d (.v (.int .i64 (worldErr p rs l ttl)))])] } := by
 have a3 := pnewA_fn p rs l hr hl
 by_cases h0 : (newP p rs l).2 = 0
 ·have hs := newP_s h0
  have a4 := pstart_rep p rs hs
  have e : worldErr p rs l ttl = if 18 < (repsL p rs rs.length).length then 3 else 7 := by
   unfold worldErr at h ⊢
   rw [if_neg (by simpa using h0)] at h ⊢
   by_cases h1 : 18 < (repsL p rs rs.length).length
   ·rw [if_pos h1, if_pos h1]
   ·rw [if_neg h1] at h
    rw [if_neg h1, if_neg h1]
    split at h
    ·rename_i h2; rw [if_pos h2]
    ·exact absurd rfl h
  have hn : ¬ 18 < (repsL p rs rs.length).length → ttl < 1 ∨ 1000 < ttl := fun h1 => by
   unfold worldErr at h
   rw [if_neg (by simpa using h0), if_neg h1] at h
   split at h
   ·assumption
   ·exact absurd rfl h
  rw [e]
  clear e h
  rw [h0] at a3
  generalize (newP p rs l).1 = c at *
  generalize repsL p rs rs.length = rl at *
  refine startW (tm := [(0, _)]) Tryz.func18 rfl Tryz.ntmps18 rfl rfl rfl rfl ?_
  repeat' (first
 |(with_reducible refine K_ca 52 ?_); refine zC (a3) ?_
 |(with_reducible refine K_ca 53 ?_); refine zC (a4) ?_
 |(with_reducible refine W_at ?_); (first
 |(refine W.call (sh := [_, _]) rfl bo52.h a3 rfl rfl rfl rfl rfl rfl ?_))
 |refine wA ?_
 |(refine wC ?_ ?_ <;> intro hc)
 |refine wB ?_ ?_
 |(with_reducible refine JL.block ?_)
 |(with_reducible refine F_at ?_); refine eW (vs := [(_, _), (_, _)]) Tryz.results18 ?_; (focus (repeat' (first | exact oA | refine oB ?_ | refine oC ?_ ?_ | fail)))
 |exact oM
 |fail)
  all_goals first | rfl | (exfalso; omega) | (rw [if_pos (by omega)]) | (rw [if_neg (by omega)]) | trace_state
 ·have e : worldErr p rs l ttl = (newP p rs l).2 := by unfold worldErr; rw [if_pos h0]
  rw [e]
  clear e h
  generalize newP p rs l = x at *
  refine startW (tm := [(0, _)]) Tryz.func18 rfl Tryz.ntmps18 rfl rfl rfl rfl ?_
  repeat' (first
 |(with_reducible refine K_ca 52 ?_); refine zC (a3) ?_
 |(with_reducible refine W_at ?_); (first
 |(refine W.call (sh := [_, _]) rfl bo52.h a3 rfl rfl rfl rfl rfl rfl ?_))
 |refine wA ?_
 |(refine wC ?_ ?_ <;> intro hc)
 |refine wB ?_ ?_
 |(with_reducible refine JL.block ?_)
 |(with_reducible refine F_at ?_); refine eW (vs := [(_, _), (_, _)]) Tryz.results18 ?_; (focus (repeat' (first | exact oA | refine oB ?_ | refine oC ?_ ?_ | fail)))
 |exact oM
 |fail)
  all_goals first | rfl | (exfalso; omega) | trace_state
theorem rworld_no (p : Prob) (rs : List Int) (l : List StepD) (ttl : Int) (hr : rs.length ≤ 1000000) (hl : l.length ≤ 1000000) (h : ¬ worldErr p rs l ttl = 0) : FnSound Tryz.prog 6 [.val true (setupC p rs l ttl)] [] { vals := [(false, [.d (.v (.pointer none))]), (false, [.d (.v (.int .i64 (worldErr p rs l ttl)))])] } := by
 have a3 := newA_fn p rs l hl
 by_cases h0 : (newP p rs l).2 = 0
 ·have hs := newP_s h0
  have a4 := rstart_rep p rs hs
  have e : worldErr p rs l ttl = if 18 < (repsL p rs rs.length).length then 3 else 7 := by
   unfold worldErr at h ⊢
   rw [if_neg (by simpa using h0)] at h ⊢
   by_cases h1 : 18 < (repsL p rs rs.length).length
   ·rw [if_pos h1, if_pos h1]
   ·rw [if_neg h1] at h
    rw [if_neg h1, if_neg h1]
    split at h
    ·rename_i h2; rw [if_pos h2]
    ·exact absurd rfl h
  have hn : ¬ 18 < (repsL p rs rs.length).length → ttl < 1 ∨ 1000 < ttl := fun h1 => by
   unfold worldErr at h
   rw [if_neg (by simpa using h0), if_neg h1] at h
   split at h
   ·assumption
   ·exact absurd rfl h
  rw [e]
  clear e h
  rw [h0] at a3
  generalize (newP p rs l).1 = c at *
  generalize repsL p rs rs.length = rl at *
  refine startW (tm := [(0, _)]) Tryz.func6 rfl Tryz.ntmps6 rfl rfl rfl rfl ?_
  repeat' (first
 |(with_reducible refine rgn 13 1300 ?_ ?_); exact rfl
 |(with_reducible refine rgn 14 1400 ?_ ?_); exact rfl
 |(with_reducible refine rgn 12 1500 ?_ ?_); exact rfl
 |(with_reducible refine K_ca 16 ?_); refine zC (a3) ?_
 |(with_reducible refine K_ca 17 ?_); refine zC (a4) ?_
 |(with_reducible refine W_at ?_); (first
 |(refine W.call (sh := [_, _]) rfl bo16.h a3 rfl rfl rfl rfl rfl rfl ?_))
 |refine wA ?_
 |(refine wC ?_ ?_ <;> intro hc)
 |refine wB ?_ ?_
 |(with_reducible refine JL.block ?_)
 |(with_reducible refine F_at ?_); refine eW (vs := [(_, _), (_, _)]) Tryz.results6 ?_; (focus (repeat' (first | exact oA | refine oB ?_ | refine oC ?_ ?_ | fail)))
 |exact oM
 |fail)
  all_goals first | rfl | (exfalso; omega) | (rw [if_pos (by omega)]) | (rw [if_neg (by omega)]) | trace_state
 ·have e : worldErr p rs l ttl = (newP p rs l).2 := by unfold worldErr; rw [if_pos h0]
  rw [e]
  clear e h
  generalize newP p rs l = x at *
  refine startW (tm := [(0, _)]) Tryz.func6 rfl Tryz.ntmps6 rfl rfl rfl rfl ?_
  repeat' (first
 |(with_reducible refine rgn 13 1300 ?_ ?_); exact rfl
 |(with_reducible refine rgn 14 1400 ?_ ?_); exact rfl
 |(with_reducible refine rgn 12 1500 ?_ ?_); exact rfl
 |(with_reducible refine K_ca 16 ?_); refine zC (a3) ?_
 |(with_reducible refine W_at ?_); (first
 |(refine W.call (sh := [_, _]) rfl bo16.h a3 rfl rfl rfl rfl rfl rfl ?_))
 |refine wA ?_
 |(refine wC ?_ ?_ <;> intro hc)
 |refine wB ?_ ?_
 |(with_reducible refine JL.block ?_)
 |(with_reducible refine F_at ?_); refine eW (vs := [(_, _), (_, _)]) Tryz.results6 ?_; (focus (repeat' (first | exact oA | refine oB ?_ | refine oC ?_ ?_ | fail)))
 |exact oM
 |fail)
  all_goals first | rfl | (exfalso; omega) | trace_state
theorem world_parts (p : Prob) (rs : List Int) (l : List StepD) (ttl : Int) (hr : rs.length ≤ 1000000) (hl : l.length ≤ 1000000) (h : worldErr p rs l ttl = 0) : (newP p rs l).2 = 0 ∧ setErr p rs = 0 ∧ (repsL p rs rs.length).length ≤ 18 ∧ 1 ≤ ttl ∧ ttl ≤ 1000 := by
 unfold worldErr at h
 by_cases h0 : (newP p rs l).2 = 0
 ·rw [if_neg (by simpa using h0)] at h
  by_cases h1 : 18 < (repsL p rs rs.length).length
  ·rw [if_pos h1] at h; cases h
  ·rw [if_neg h1] at h
   by_cases h2 : ttl < 1 ∨ 1000 < ttl
   ·rw [if_pos h2] at h; cases h
   ·exact ⟨h0, newP_s h0, by omega, by omega, by omega⟩
 ·rw [if_pos h0] at h; exact absurd h h0
theorem pworld_ok (p : Prob) (rs : List Int) (l : List StepD) (ttl : Int) (hr : rs.length ≤ 1000000) (hl : l.length ≤ 1000000) (h : worldErr p rs l ttl = 0) : FnSound Tryz.prog 18 [.val true (setupC p rs l ttl)] [] { vals := [(false, [.rptr [] 0]), (false, [.d (.v (.int .i64 0))])] } := by
 have a3 := pnewA_fn p rs l hr hl
 obtain ⟨h0, hs, h1, h2, h3⟩ := world_parts p rs l ttl hr hl h
 have hvp := vp_all (setErr_ok hs).1
 have a4 := pstart_rep p rs hs
 have a5 := cloneInts_fn rs (by omega)
 have a6 := cloneSteps_fn l hl
 have a7 := repSpl_fn p.tabs.length (by omega)
 clear h
 rw [h0] at a3
 generalize (newP p rs l).1 = c at *
 generalize repsL p rs rs.length = rl at *
 refine startW (tm := [(0, _)]) Tryz.func18 rfl Tryz.ntmps18 rfl rfl rfl rfl ?_
 repeat' (first
 |(with_reducible refine reg_at (id := 15) ?_); (try (refine JL.ptrW 7 rfl rfl ?_)); (with_reducible refine rg ?_ ?_); exact rfl
 |(with_reducible refine K_ca 52 ?_); refine zC (a3) ?_
 |(with_reducible refine K_ca 53 ?_); refine zC (a4) ?_
 |(with_reducible refine K_ca 54 ?_); refine zS (a5) ?_
 |(with_reducible refine K_ca 55 ?_); refine zS (a6) ?_
 |(with_reducible refine K_ca 56 ?_); refine zS (a7) ?_
 |(with_reducible refine W_at ?_); (first
 |(refine W.call (sh := [_, _]) rfl bo52.h a3 rfl rfl rfl rfl rfl rfl ?_))
 |refine wA ?_
 |(refine wC ?_ ?_ <;> intro hc)
 |refine wB ?_ ?_
 |(with_reducible refine JL.block ?_)
 |(with_reducible refine F_at ?_); refine eW (vs := [(_, _), (_, _)]) Tryz.results18 ?_; (focus (repeat' (first | exact oA | refine oB ?_ | refine oC ?_ ?_ | fail)))
 |exact oM
 |fail)
 all_goals first | rfl | (exfalso; omega) | trace_state
theorem rworld_ok (p : Prob) (rs : List Int) (l : List StepD) (ttl : Int) (hr : rs.length ≤ 1000000) (hl : l.length ≤ 1000000) (h : worldErr p rs l ttl = 0) : FnSound Tryz.prog 6 [.val true (setupC p rs l ttl)] [] { vals := [(false, [.rptr [] 0]), (false, [.d (.v (.int .i64 0))])] } := by
 have a3 := newA_fn p rs l hl
 obtain ⟨h0, hs, h1, h2, h3⟩ := world_parts p rs l ttl hr hl h
 have hvp := vp_all (setErr_ok hs).1
 have a4 := rstart_rep p rs hs
 clear h
 rw [h0] at a3
 generalize (newP p rs l).1 = c at *
 generalize repsL p rs rs.length = rl at *
 refine startW (tm := [(0, _)]) Tryz.func6 rfl Tryz.ntmps6 rfl rfl rfl rfl ?_
 repeat' (first
 |(with_reducible refine rgn 13 1300 ?_ ?_); exact rfl
 |(with_reducible refine rgn 14 1400 ?_ ?_); exact rfl
 |(with_reducible refine rgn 12 1500 ?_ ?_); exact rfl
 |(with_reducible refine reg_at (id := 15) ?_); (try (refine JL.ptrW 8 rfl rfl ?_)); (with_reducible refine rg ?_ ?_); exact rfl
 |(with_reducible refine K_ca 16 ?_); refine zC (a3) ?_
 |(with_reducible refine K_ca 17 ?_); refine zC (a4) ?_
 |(with_reducible refine W_at ?_); (first
 |(refine W.call (sh := [_, _]) rfl bo16.h a3 rfl rfl rfl rfl rfl rfl ?_))
 |(with_reducible refine blk_at (id := 0) ?_); (try (refine JL.zeroBW (cs2 := [_, _, _, _, _, _, _, _, _, _, _, _, _, _, _, _, _, _, _, _, _, _, _, _, _, _, _, _, _, _, _, _, _, _, _, _, _, _]) (512, 1000) 35 _ 76 3 rfl rfl rfl rfl ?_)); (refine JL.rekBW (cs2 := [_, _, _, _, _, _, _, _, _, _, _, _, _, _, _, _, _, _, _, _, _, _, _, _, _, _, _, _, _, _, _, _, _, _, _, _, _, _]) (512, 1000) 35 (1835, 1151) rfl rfl rfl rfl rfl rfl ?_); (try (refine JL.zeroBW (cs2 := [_, _, _, _, _, _, _, _, _, _, _, _, _, _, _, _, _, _, _, _, _, _, _, _, _, _, _, _, _, _, _, _, _, _, _, _, _, _]) (512, 1000) 36 _ 2 1 rfl rfl rfl rfl ?_)); (refine JL.rekBW (cs2 := [_, _, _, _, _, _, _, _, _, _, _, _, _, _, _, _, _, _, _, _, _, _, _, _, _, _, _, _, _, _, _, _, _, _, _, _, _, _]) (512, 1000) 36 (1836, 1153) rfl rfl rfl rfl rfl rfl ?_); ((with_reducible refine JL.loopW 0 1199 (fun (k : Nat) tm => (9, .one false [.d (.v (.int .i64 ((k : Int))))]) :: tm) (fun (k : Nat) bo => ((512, 1000), some (.st 73 [.d (.sl 1 ((dInts p.vs))), .d (.sl 1 ((dInts p.now))), .d (.sl 1 ((dInts p.tgt))), .d (.sl 6 ((dTabs p.tabs))), .d (.sl 1 ((dInts rs))), .d (.sl 3 ((dSteps l))), .d (.v (.int .i64 (ttl))), .d (.v (.int .i64 (0))), .d (.v (.int .i64 ((-1)))), .d (.v (.int .i64 (0))), .d (.v (.int .i64 (0))), .d (.v (.string (ByteArray.empty))), .d (.sl 4 ((dReps rl))), .d (.v (.bool (true))), .d (.v (.bool (true))), .d (.sl 3 ((dSteps c.plan))), .d (.v (.int .i64 (c.at_))), .d (.v (.int .i64 (c.phase))), .d (.v (.int .i64 (c.replica))), .d (.v (.int .i64 (c.round))), .d (.v (.int .i64 (c.token))), .d (.sl 1 ((dInts c.mix.base))), .d (.sl 1 ((dInts c.mix.next))), .d (.sl 1 ((dSets c.mix.held))), .d (.sl 3 ((dSteps c.plan))), .d (.v (.int .i64 (c.at_))), .d (.v (.int .i64 (c.phase))), .d (.v (.int .i64 (c.replica))), .d (.v (.int .i64 (c.round))), .d (.v (.int .i64 (c.token))), .d (.sl 1 ((dInts c.mix.base))), .d (.sl 1 ((dInts c.mix.next))), .d (.sl 1 ((dSets c.mix.held))), .zero, .d (.v (.int .i64 (1))), .own (1835, 1151), .own (1836, 1153), .zero])) :: ((1835, 1151), some (.sl 76 3 ((List.replicate k splRow)))) :: ((1836, 1153), some (.sl 2 1 ((List.replicate k [.v (.int .i64 0)])))) :: bo) (fun (k : Nat) => k ≤ p.tabs.length) (fun (k : Nat) => p.tabs.length - k) (0) ?_ (fun k hk => ?_) ?_); (focus (apply SubW [((1835, 1151), _), ((1836, 1153), _)] rfl ?_ ?_ rfl ?_; (repeat' (first | exact kA | refine kB ?_ | refine kC ?_ ?_ | exact kD | fail)))))
 |((with_reducible refine round_next (i := k) (k + 1) ?_ ?_ ?_); (focus (apply SubW [((1835, 1151), _), ((1836, 1153), _)] rfl ?_ ?_ rfl ?_; (repeat' (first | exact kA | refine kB ?_ | refine kC ?_ ?_ | exact kD | fail)))))
 |refine wA ?_
 |(refine wC ?_ ?_ <;> intro hc)
 |refine wB ?_ ?_
 |(with_reducible refine JL.block ?_)
 |(with_reducible refine F_at ?_); refine eW (vs := [(_, _), (_, _)]) Tryz.results6 ?_; (focus (repeat' (first | exact oA | refine oB ?_ | refine oC ?_ ?_ | fail)))
 |exact oM
 |fail)
 all_goals first | rfl | (exfalso; omega) | exact (List.replicate_succ').symm | trace_state
end Go.Proofs.YtfnljcallbalgaaGreatDoor

