/- Rules of runs and contracts of functions, for the claims of one seat. -/
import Derived.Test.YtgehafnodibhpaaGreatDoorPA14
import Derived.Test.YtgehafnodibhpaaGreatDoorPA19
import Derived.Test.YtgehafnodibhpaaGreatDoorPA36
import Derived.Test.YtgehafnodibhpaaGreatDoorPA42
namespace Go.Proofs.YtgehafnodibhpaaGreatDoor
open Go Go.RowKit
set_option maxRecDepth 100000
set_option maxHeartbeats 8000000
set_option linter.unusedSimpArgs false
set_option linter.unusedVariables false
theorem pair_ok (a b : VerD) (ha : SmV a) (hb : SmV b) (t : WhrD) (f1 f2 : Bool) (h1 : FnSound Tryz.prog 6 [.val true (verC a)] [] { vals := [(false, [.d (.v (.bool f1))])] }) (h2 : FnSound Tryz.prog 6 [.val true (verC b)] [] { vals := [(false, [.d (.v (.bool f2))])] })
    (ea : verErr a = 0) (eb : verErr b = 0) : FnSound Tryz.prog 3 [.val true (verC a), .val true (verC b), .val true (whrC t)] [] { vals := [(false, [.d (.v (.bool true))])] } := by
 have ra := rver_fn a ha
 have rb := rver_fn b hb
 rw [ea] at ra
 rw [eb] at rb
 refine startW (tm := [(0, _), (1, _), (2, _)]) Tryz.func3 rfl Tryz.ntmps3 rfl rfl rfl rfl ?_
 repeat' (first
 |(with_reducible refine K_ca 4 ?_); (first
 |refine zC (ra) ?_
 |refine zC (rb) ?_)
 |(with_reducible refine K_ca 5 ?_); refine zC (awake33_fn) ?_
 |(with_reducible refine K_ca 6 ?_); (first
 |refine zC (h1) ?_
 |refine zC (h2) ?_)
 |refine wA ?_
 |(refine wC ?_ ?_ <;> intro hc)
 |refine wB ?_ ?_
 |(with_reducible refine JL.block ?_)
 |(with_reducible refine F_at ?_); refine eW (vs := [(_, _)]) Tryz.results3 ?_; (focus (repeat' (first | exact oA | refine oB ?_ | refine oC ?_ ?_ | fail)))
 |exact oM
 |fail)
 all_goals first | rfl | (exfalso; omega) | (simp; done) | trace_state
theorem pair_bad (a b : VerD) (ha : SmV a) (hb : SmV b) (t : WhrD) (f1 f2 : Bool) (h1 : FnSound Tryz.prog 6 [.val true (verC a)] [] { vals := [(false, [.d (.v (.bool f1))])] }) (h2 : FnSound Tryz.prog 6 [.val true (verC b)] [] { vals := [(false, [.d (.v (.bool f2))])] })
    (e : Int) (he : ErrOf a b e) (h : ¬ e = 0) : FnSound Tryz.prog 3 [.val true (verC a), .val true (verC b), .val true (whrC t)] [] { vals := [(false, [.d (.v (.bool true))])] } := by
 have ra := rver_fn a ha
 have rb := rver_fn b hb
 have c1 := pcall_no a b ha hb e he h t.name
 have c2 := psess_no a b ha hb e he h t.name 1
 have c3 := ptop_no a b ha hb e he h t.name
 have c4 := pof_no a b ha hb e he h t
 have c5 := pform_no a b ha hb e he h t
 have c6 := ptab_no a b ha hb e he h t
 have c7 := pcheck_no a b ha hb e he h t
 unfold ErrOf at he
 refine startW (tm := [(0, _), (1, _), (2, _)]) Tryz.func3 rfl Tryz.ntmps3 rfl rfl rfl rfl ?_
 repeat' (first
 |(with_reducible refine rgL (fun g => g == 12) ?_ ?_); exact rfl
 |(with_reducible refine K_ca 4 ?_); (first
 |refine zC (ra) ?_
 |refine zC (rb) ?_)
 |(with_reducible refine K_ca 5 ?_); refine zC (awake33_fn) ?_
 |(with_reducible refine K_ca 6 ?_); (first
 |refine zC (h1) ?_
 |refine zC (h2) ?_)
 |(with_reducible refine K_ca 7 ?_); refine zC (c1) ?_
 |(with_reducible refine K_ca 8 ?_); refine zC (c2) ?_
 |(with_reducible refine K_ca 9 ?_); refine zC (c3) ?_
 |(with_reducible refine K_ca 10 ?_); refine zC (c4) ?_
 |(with_reducible refine K_ca 11 ?_); refine zC (c5) ?_
 |(with_reducible refine K_ca 12 ?_); refine zC (c6) ?_
 |(with_reducible refine K_ca 13 ?_); refine zC (c7) ?_
 |refine wA ?_
 |(refine wC ?_ ?_ <;> intro hc)
 |refine wB ?_ ?_
 |(with_reducible refine JL.block ?_)
 |(with_reducible refine F_at ?_); refine eW (vs := [(_, _)]) Tryz.results3 ?_; (focus (repeat' (first | exact oA | refine oB ?_ | refine oC ?_ ?_ | fail)))
 |exact oM
 |fail)
 all_goals first | rfl | (exfalso; omega) | (simp; done) | trace_state
theorem pairErrors_law (a b : VerD) (ha : SmV a) (hb : SmV b) (t : WhrD) : FnSound Tryz.prog 3 [.val true (verC a), .val true (verC b), .val true (whrC t)] [] { vals := [(false, [.d (.v (.bool true))])] } := by
 obtain ⟨f1, h1⟩ := few32_ex a ha.types
 obtain ⟨f2, h2⟩ := few32_ex b hb.types
 by_cases ea : verErr a = 0
 ·by_cases eb : verErr b = 0
  ·exact pair_ok a b ha hb t f1 f2 h1 h2 ea eb
  ·exact pair_bad a b ha hb t f1 f2 h1 h2 (verErr b) (.inr ⟨ea, rfl⟩) eb
 ·exact pair_bad a b ha hb t f1 f2 h1 h2 (verErr a) (.inl ⟨ea, rfl⟩) ea
end Go.Proofs.YtgehafnodibhpaaGreatDoor

