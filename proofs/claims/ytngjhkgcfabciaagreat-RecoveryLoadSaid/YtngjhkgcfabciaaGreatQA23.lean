/- Rules of runs and contracts of functions, for the claims of one seat. -/
import Derived.Test.YtngjhkgcfabciaaGreatQA15
import Derived.Test.YtngjhkgcfabciaaGreatQA22
namespace Go.Proofs.YtngjhkgcfabciaaGreat
open Go Go.RowKit
set_option maxRecDepth 100000
set_option maxHeartbeats 8000000
set_option linter.unusedSimpArgs false
set_option linter.unusedVariables false
theorem firstGoal_at {p : Prob} : ∀ {l : List NodeD} {k i : Nat}, k < l.length → (∀ j, j < k → goalP p (l.getD j nilN).mix = false) → goalP p (l.getD k nilN).mix = true → firstGoal p l i = some (i + k)
 | n :: r, 0, i, _, _, h => by
  have h : goalP p n.mix = true := h
  unfold firstGoal; rw [if_pos h]; rfl
 | n :: r, k + 1, i, hk, h0, h => by
  have h1 : goalP p n.mix = false := h0 0 (by omega)
  unfold firstGoal
  rw [if_neg (by rw [h1]; decide), firstGoal_at (k := k) (by simpa using hk) (fun j hj => h0 (j + 1) (by omega)) h]
  congr 1; omega
theorem firstGoal_no {p : Prob} : ∀ {l : List NodeD} {i : Nat}, (∀ j, j < l.length → goalP p (l.getD j nilN).mix = false) → firstGoal p l i = none
 | [], _, _ => rfl
 | n :: r, i, h0 => by
  have h1 : goalP p n.mix = false := h0 0 (by simp)
  unfold firstGoal
  rw [if_neg (by rw [h1]; decide), firstGoal_no fun j hj => h0 (j + 1) (by simpa using hj)]
def fromL (p : Prob) (l : List NodeD) : List StepD × Int := match firstGoal p l 0 with
 | none => ([], 14)
 | some i => (wayP l i, 0)
theorem fromL_at {p : Prob} {l : List NodeD} {k : Nat} (hk : k < l.length) (h0 : ∀ j, j < k → goalP p (l.getD j nilN).mix = false) (h : goalP p (l.getD k nilN).mix = true) : fromL p l = (wayP l k, 0) := by
 unfold fromL; rw [firstGoal_at hk h0 h, Nat.zero_add]
theorem fromL_no {p : Prob} {l : List NodeD} (h0 : ∀ j, j < l.length → goalP p (l.getD j nilN).mix = false) : fromL p l = ([], 14) := by
 unfold fromL; rw [firstGoal_no h0]
theorem from_fn (p : Prob) (m : MixD) (hm : mixErr p m = 0 → MixG p m) : FnSound Tryz.prog 45 [.val true (probC p), .val true (mixC m)] [] { vals := [(false, [.d (.sl 3 (dSteps (fromP p m).1))]), (false, [.d (.v (.int .i64 (fromP p m).2))])] } := by
 by_cases h : mixErr p m = 0
 ·have hg := hm h
  have hrf := robust_fn p m hg.inn
  cases hr : robustP p m with
  | false =>
   have e : fromP p m = ([], 13) := by unfold fromP; rw [if_neg (by simpa using h), if_pos hr]
   rw [e]
   rw [hr] at hrf
   refine startW (tm := [(0, _), (1, _)]) Tryz.func45 rfl Tryz.ntmps45 rfl rfl rfl rfl ?_
   repeat' (first
 |(with_reducible refine rgn 12 1200 ?_ ?_); exact rfl
 |(with_reducible refine rgn 13 1300 ?_ ?_); exact rfl
 |(with_reducible refine rgn 11 1400 ?_ ?_); exact rfl
 |(with_reducible refine K_ca 80 ?_); refine zC (mixValidOK_fn h) ?_
 |(with_reducible refine K_ca 43 ?_); refine zC (hrf) ?_
 |refine wA ?_
 |(refine wC ?_ ?_ <;> intro hc)
 |refine wB ?_ ?_
 |(with_reducible refine JL.block ?_)
 |(with_reducible refine F_at ?_); refine eW (vs := [(_, _), (_, _)]) Tryz.results45 ?_; (focus (repeat' (first | exact oA | refine oB ?_ | refine oC ?_ ?_ | fail)))
 |exact oM
 |fail)
   all_goals rfl
  | true =>
   rw [hr] at hrf
   have hsp := space_fn p m 20000 hg hr (by omega)
   cases hs : spaceP p m 20000 with
   | none =>
    have e : fromP p m = ([], 3) := by unfold fromP; rw [if_neg (by simpa using h), if_neg (by rw [hr]; decide), hs]
    rw [e]
    have hsp' : FnSound Tryz.prog 44 [.val true (probC p), .val true (mixC m), .val false [.d (.v (.int .i64 20000))]] [] { vals := [(false, [.d (.sl 7 (dNodes []))]), (false, [.d (.v (.bool false))])] } := by rw [hs] at hsp; exact hsp
    refine startW (tm := [(0, _), (1, _)]) Tryz.func45 rfl Tryz.ntmps45 rfl rfl rfl rfl ?_
    repeat' (first
 |(with_reducible refine rgn 12 1200 ?_ ?_); exact rfl
 |(with_reducible refine rgn 13 1300 ?_ ?_); exact rfl
 |(with_reducible refine rgn 11 1400 ?_ ?_); exact rfl
 |(with_reducible refine K_ca 80 ?_); refine zC (mixValidOK_fn h) ?_
 |(with_reducible refine K_ca 43 ?_); refine zC (hrf) ?_
 |(with_reducible refine K_ca 44 ?_); refine zC (hsp') ?_
 |refine wA ?_
 |(refine wC ?_ ?_ <;> intro hc)
 |refine wB ?_ ?_
 |(with_reducible refine JL.block ?_)
 |(with_reducible refine F_at ?_); refine eW (vs := [(_, _), (_, _)]) Tryz.results45 ?_; (focus (repeat' (first | exact oA | refine oB ?_ | refine oC ?_ ?_ | fail)))
 |exact oM
 |fail)
    all_goals rfl
   | some l =>
    have e : fromP p m = fromL p l := by unfold fromP; rw [if_neg (by simpa using h), if_neg (by rw [hr]; decide), hs]; rfl
    rw [e]
    have hsp' : FnSound Tryz.prog 44 [.val true (probC p), .val true (mixC m), .val false [.d (.v (.int .i64 20000))]] [] { vals := [(false, [.d (.sl 7 (dNodes l))]), (false, [.d (.v (.bool true))])] } := by rw [hs] at hsp; exact hsp
    obtain ⟨hN, hlen⟩ := spaceP_ok hr (by omega) hs
    refine startW (tm := [(0, _), (1, _)]) Tryz.func45 rfl Tryz.ntmps45 rfl rfl rfl rfl ?_
    repeat' (first
 |(with_reducible refine rgn 12 1200 ?_ ?_); exact rfl
 |(with_reducible refine rgn 13 1300 ?_ ?_); exact rfl
 |(with_reducible refine rgn 11 1400 ?_ ?_); exact rfl
 |(with_reducible refine K_ca 80 ?_); refine zC (mixValidOK_fn h) ?_
 |(with_reducible refine K_ca 43 ?_); refine zC (hrf) ?_
 |(with_reducible refine K_ca 44 ?_); refine zC (hsp') ?_
 |(with_reducible refine K_ca 81 ?_); refine zC (goal_fn p (l.getD k nilN).mix) ?_
 |(with_reducible refine K_ca 82 ?_); refine zC (way_fn p m l k hN (by omega) (by omega)) ?_
 |(with_reducible refine blk_at (id := 0) ?_); ((with_reducible refine JL.loopW 0 1099 (fun (k : Nat) tm => (9, .one false [.d (.v (.int .i64 ((k : Int))))]) :: tm) (fun (k : Nat) bo => bo) (fun (k : Nat) => k ≤ l.length ∧ ∀ j, j < k → goalP p (l.getD j nilN).mix = false) (fun (k : Nat) => l.length - k) (0) ?_ (fun k hk => ?_) ?_); (focus (apply SubW [] rfl ?_ ?_ rfl ?_; (repeat' (first | exact kA | refine kB ?_ | refine kC ?_ ?_ | exact kD | fail)))))
 |((with_reducible refine round_next (i := k) (k + 1) ?_ ?_ ?_); (focus (apply SubW [] rfl ?_ ?_ rfl ?_; (repeat' (first | exact kA | refine kB ?_ | refine kC ?_ ?_ | exact kD | fail)))))
 |refine wA ?_
 |(refine wC ?_ ?_ <;> intro hc)
 |refine wB ?_ ?_
 |(with_reducible refine JL.block ?_)
 |(with_reducible refine F_at ?_); refine eW (vs := [(_, _), (_, _)]) Tryz.results45 ?_; (focus (repeat' (first | exact oA | refine oB ?_ | refine oC ?_ ?_ | fail)))
 |exact oM
 |fail)
    all_goals first
     | rfl
     | (rw [fromL_at (k := k) (by omega) hk.2 hc] <;> rfl)
     | (rw [fromL_no (fun j hj => hk.2 j (by omega))] <;> rfl)
     | exact ⟨Nat.zero_le _, fun j hj => absurd hj (Nat.not_lt_zero j)⟩
     | (refine ⟨by omega, fun j hj => ?_⟩; by_cases e : j = k; (subst e; exact hc); exact hk.2 j (by omega))
     | trace_state
 ·have e : fromP p m = ([], mixErr p m) := by unfold fromP; rw [if_pos h]
  rw [e]
  refine startW (tm := [(0, _), (1, _)]) Tryz.func45 rfl Tryz.ntmps45 rfl rfl rfl rfl ?_
  repeat' (first
 |(with_reducible refine rgn 12 1200 ?_ ?_); exact rfl
 |(with_reducible refine rgn 13 1300 ?_ ?_); exact rfl
 |(with_reducible refine rgn 11 1400 ?_ ?_); exact rfl
 |(with_reducible refine K_ca 80 ?_); refine zC (mixValid_fn p m) ?_
 |(with_reducible refine K_ca 43 ?_); refine zC (robust_fn p m (mixIn_of (by assumption))) ?_
 |(with_reducible refine K_ca 44 ?_); refine zC (space_fn p m 20000 (hm (by assumption)) (by simpa using ‹robustP p m = true›) (by omega)) ?_
 |refine wA ?_
 |(refine wC ?_ ?_ <;> intro hc)
 |refine wB ?_ ?_
 |(with_reducible refine JL.block ?_)
 |(with_reducible refine F_at ?_); refine eW (vs := [(_, _), (_, _)]) Tryz.results45 ?_; (focus (repeat' (first | exact oA | refine oB ?_ | refine oC ?_ ?_ | fail)))
 |exact oM
 |fail)
  all_goals first | rfl | exact absurd (by assumption) h | trace_state
theorem findOK_fn (p : Prob) (h : vpErr p = 0) : FnSound Tryz.prog 23 [.val true (probC p)] [] { vals := [(false, [.d (.sl 3 (dSteps (findP p).1))]), (false, [.d (.v (.int .i64 (findP p).2))])] } := by
 have e : findP p = fromP p (startM p) := by unfold findP; rw [if_neg (by simpa using h)]
 rw [e]
 refine startW (tm := [(0, _)]) Tryz.func23 rfl Tryz.ntmps23 rfl rfl rfl rfl ?_
 repeat' (first
 |(with_reducible refine K_ca 42 ?_); refine zC (start_fn p h) ?_
 |(with_reducible refine K_ca 45 ?_); refine zC (from_fn p (startM p) (fun _ => start_g h)) ?_
 |refine wA ?_
 |(refine wC ?_ ?_ <;> intro hc)
 |refine wB ?_ ?_
 |(with_reducible refine JL.block ?_)
 |(with_reducible refine F_at ?_); refine eW (vs := [(_, _), (_, _)]) Tryz.results23 ?_; (focus (repeat' (first | exact oA | refine oB ?_ | refine oC ?_ ?_ | fail)))
 |exact oM
 |fail)
 all_goals rfl
theorem lightOK_fn (p : Prob) (h : vpErr p = 0) (most : Nat) (h1 : 1 ≤ most ∧ most ≤ 20000) : FnSound Tryz.prog 22 [.val true (probC p), .val false [.d (.v (.int .i64 (most : Int)))]] [] { vals := [(false, [.d (.v (.bool (lightP p most)))])] } := by
 have hrf := robust_fn p (startM p) (start_g h).inn
 cases hr : robustP p (startM p) with
 | false =>
  rw [hr] at hrf
  have e : lightP p most = true := by unfold lightP; rw [hr]; simp
  rw [e]
  refine startW (tm := [(0, _), (1, _)]) Tryz.func22 rfl Tryz.ntmps22 rfl rfl rfl rfl ?_
  repeat' (first
 |(with_reducible refine K_ca 42 ?_); refine zC (start_fn p h) ?_
 |(with_reducible refine K_ca 43 ?_); refine zC (hrf) ?_
 |refine wA ?_
 |(refine wC ?_ ?_ <;> intro hc)
 |refine wB ?_ ?_
 |(with_reducible refine JL.block ?_)
 |(with_reducible refine F_at ?_); refine eW (vs := [(_, _)]) Tryz.results22 ?_; (focus (repeat' (first | exact oA | refine oB ?_ | refine oC ?_ ?_ | fail)))
 |exact oM
 |fail)
  all_goals rfl
 | true =>
  rw [hr] at hrf
  have e : lightP p most = (spaceP p (startM p) most).isSome := by unfold lightP; rw [hr]; simp [h]
  rw [e]
  refine startW (tm := [(0, _), (1, _)]) Tryz.func22 rfl Tryz.ntmps22 rfl rfl rfl rfl ?_
  repeat' (first
 |(with_reducible refine K_ca 42 ?_); refine zC (start_fn p h) ?_
 |(with_reducible refine K_ca 43 ?_); refine zC (hrf) ?_
 |(with_reducible refine K_ca 44 ?_); refine zC (space_fn p (startM p) most (start_g h) hr h1) ?_
 |refine wA ?_
 |(refine wC ?_ ?_ <;> intro hc)
 |refine wB ?_ ?_
 |(with_reducible refine JL.block ?_)
 |(with_reducible refine F_at ?_); refine eW (vs := [(_, _)]) Tryz.results22 ?_; (focus (repeat' (first | exact oA | refine oB ?_ | refine oC ?_ ?_ | fail)))
 |exact oM
 |fail)
  all_goals rfl
theorem blameA_fn (p : Prob) (m : MixD) : FnSound Tryz.prog 104 [.val true (probC p), .val true (mixC m)] [] { vals := [(true, mixC (blameP p m).1), (true, confC (blameP p m).2.1), (false, [.d (.v (.int .i64 (blameP p m).2.2))])] } := by
 by_cases h : mixErr p m = 0
 ·exact blame_fn p m h
 ·exact blame0_fn p m h
theorem failL_at {p : Prob} {m : MixD} {l : List StepD} {k : Nat} {i : Int} (hk : k < l.length) : failL p m (l.drop k) i = if ¬ (applyP p m (l.getD k nilS)).2 = 0 ∨ (l.getD k nilS).kind = 4 then (i, nilM, nilC, 0)
    else if (blameP p (applyP p m (l.getD k nilS)).1).2.2 = 0 then (i, (blameP p (applyP p m (l.getD k nilS)).1).1, (blameP p (applyP p m (l.getD k nilS)).1).2.1, 0)
    else failL p (applyP p m (l.getD k nilS)).1 (l.drop (k + 1)) (i + 1) := by
 rw [dropD_cons (d := nilS) hk]; rfl
def nxF (p : Prob) (l : List StepD) (y : Nat × MixD) : Nat × MixD := (y.1 + 1, if y.1 = 0 then y.2 else (applyP p y.2 (l.getD ((y.1 : Int) - 1).toNat nilS)).1)
abbrev FI (p : Prob) (l : List StepD) (y : Nat × MixD) : Prop := y.1 ≤ l.length + 1 ∧ (y.1 = 0 → y.2 = startM p) ∧ (1 ≤ y.1 → failL p y.2 (l.drop (y.1 - 1)) ((y.1 : Int) - 1) = failP p l)
theorem fl_err {p : Prob} {l : List StepD} {y : Nat × MixD} (hy : FI p l y) (h1 : 1 ≤ y.1) (h2 : y.1 ≤ l.length) (h : ¬ (applyP p y.2 (l.getD ((y.1 : Int) - 1).toNat nilS)).2 = 0 ∨ (l.getD ((y.1 : Int) - 1).toNat nilS).kind = 4) : failP p l = ((y.1 : Int) - 1, nilM, nilC, 0) := by
 rw [show ((y.1 : Int) - 1).toNat = y.1 - 1 by omega] at h
 rw [← hy.2.2 h1, failL_at (by omega), if_pos h]
theorem fl_bl {p : Prob} {l : List StepD} {y : Nat × MixD} (hy : FI p l y) (h1 : 1 ≤ y.1) (h2 : y.1 ≤ l.length) (h3 : (applyP p y.2 (l.getD ((y.1 : Int) - 1).toNat nilS)).2 = 0) (h4 : ¬ (l.getD ((y.1 : Int) - 1).toNat nilS).kind = 4) (h : (blameP p (applyP p y.2 (l.getD ((y.1 : Int) - 1).toNat nilS)).1).2.2 = 0) : failP p l = ((y.1 : Int) - 1, (blameP p (applyP p y.2 (l.getD ((y.1 : Int) - 1).toNat nilS)).1).1, (blameP p (applyP p y.2 (l.getD ((y.1 : Int) - 1).toNat nilS)).1).2.1, 0) := by
 rw [show ((y.1 : Int) - 1).toNat = y.1 - 1 by omega] at h h3 h4 ⊢
 rw [← hy.2.2 h1, failL_at (by omega), if_neg (by rintro (a | a); exact a h3; exact h4 a), if_pos h]
theorem fl_b0 {p : Prob} {l : List StepD} {y : Nat × MixD} (hv : vpErr p = 0) (hy : FI p l y) (h1 : y.1 = 0) (h : (blameP p y.2).2.2 = 0) : failP p l = ((y.1 : Int) - 1, (blameP p y.2).1, (blameP p y.2).2.1, 0) := by
 have e := hy.2.1 h1
 rw [e] at h ⊢
 unfold failP
 rw [if_neg (by simpa using hv), if_pos h, h1]; rfl
theorem fl_nx {p : Prob} {l : List StepD} {y : Nat × MixD} (hy : FI p l y) (h1 : 1 ≤ y.1) (h2 : y.1 ≤ l.length) (h3 : (applyP p y.2 (l.getD ((y.1 : Int) - 1).toNat nilS)).2 = 0) (h4 : ¬ (l.getD ((y.1 : Int) - 1).toNat nilS).kind = 4) (h : ¬ (blameP p (applyP p y.2 (l.getD ((y.1 : Int) - 1).toNat nilS)).1).2.2 = 0) : FI p l (nxF p l y) := by
 refine ⟨by show y.1 + 1 ≤ _; omega, fun a => absurd a (Nat.succ_ne_zero _), fun _ => ?_⟩
 show failL p (if y.1 = 0 then y.2 else _) (l.drop (y.1 + 1 - 1)) (((y.1 + 1 : Nat) : Int) - 1) = _
 rw [if_neg (by omega)]
 rw [show ((y.1 : Int) - 1).toNat = y.1 - 1 by omega] at h h3 h4 ⊢
 rw [← hy.2.2 h1, failL_at (k := y.1 - 1) (by omega), if_neg (by rintro (a | a); exact a h3; exact h4 a), if_neg h]
 rw [show y.1 + 1 - 1 = y.1 - 1 + 1 by omega, show ((y.1 + 1 : Nat) : Int) - 1 = (y.1 : Int) - 1 + 1 by omega]
theorem fl_n0 {p : Prob} {l : List StepD} {y : Nat × MixD} (hv : vpErr p = 0) (hy : FI p l y) (h1 : y.1 = 0) (h : ¬ (blameP p y.2).2.2 = 0) : FI p l (nxF p l y) := by
 have e := hy.2.1 h1
 refine ⟨by show y.1 + 1 ≤ _; omega, fun a => absurd a (Nat.succ_ne_zero _), fun _ => ?_⟩
 show failL p (if y.1 = 0 then y.2 else _) (l.drop (y.1 + 1 - 1)) (((y.1 + 1 : Nat) : Int) - 1) = _
 rw [if_pos h1]
 rw [e] at h ⊢
 unfold failP
 rw [if_neg (by simpa using hv), if_neg h, h1]; rfl
theorem fl_end {p : Prob} {l : List StepD} {y : Nat × MixD} (hy : FI p l y) (h1 : l.length < y.1) : failP p l = if goalP p y.2 = true then (0, nilM, nilC, 15) else ((l.length : Int), nilM, nilC, 14) := by
 have e : y.1 = l.length + 1 := by have := hy.1; omega
 rw [← hy.2.2 (by omega), List.drop_eq_nil_of_le (by omega), e, show ((l.length + 1 : Nat) : Int) - 1 = (l.length : Int) by omega]
 rfl
theorem fail_fn (p : Prob) (l : List StepD) (h : vpErr p = 0) (hl : l.length ≤ 1000000) : FnSound Tryz.prog 83 [.val true (probC p), .val false [.d (.sl 3 (dSteps l))]] [] { vals := [(false, [.d (.v (.int .i64 (failP p l).1))]), (true, mixC (failP p l).2.1), (true, confC (failP p l).2.2.1), (false, [.d (.v (.int .i64 (failP p l).2.2.2))])] } := by
 refine startW (tm := [(0, _), (1, _)]) Tryz.func83 rfl Tryz.ntmps83 rfl rfl rfl rfl ?_
 repeat' (first
 |(with_reducible refine rgn 7 700 ?_ ?_); exact rfl
 |(with_reducible refine rgn 8 800 ?_ ?_); exact rfl
 |(with_reducible refine rgn 9 900 ?_ ?_); exact rfl
 |(with_reducible refine rgn 10 1000 ?_ ?_); exact rfl
 |(with_reducible refine rgn 11 1100 ?_ ?_); exact rfl
 |(with_reducible refine rgn 12 1200 ?_ ?_); exact rfl
 |(with_reducible refine rgn 13 1300 ?_ ?_); exact rfl
 |(with_reducible refine rgn 14 1400 ?_ ?_); exact rfl
 |(with_reducible refine rgn 6 1500 ?_ ?_); exact rfl
 |(with_reducible refine K_ca 42 ?_); refine zC (start_fn p h) ?_
 |(with_reducible refine K_ca 101 ?_); refine zC (apply_fn p y.2 (l.getD ((y.1 : Int) - 1).toNat nilS)) ?_
 |(with_reducible refine K_ca 104 ?_); (first
 |refine zC (blameA_fn p y.2) ?_
 |refine zC (blameA_fn p (applyP p y.2 (l.getD ((y.1 : Int) - 1).toNat nilS)).1) ?_)
 |(with_reducible refine K_ca 81 ?_); refine zC (goal_fn p y.2) ?_
 |(with_reducible refine blk_at (id := 0) ?_); ((with_reducible refine JL.loopW 0 599 (fun (y : Nat × MixD) tm => (10, .one false [.d (.v (.int .i64 (((y.1 : Int) - 1))))]) :: tm) (fun (y : Nat × MixD) bo => ((320, 200), some (.st 45 [.d (.sl 1 ((dInts y.2.base))), .d (.sl 1 ((dInts y.2.next))), .d (.sl 1 ((dSets y.2.held)))])) :: bo) (fun (y : Nat × MixD) => FI p l y) (fun (y : Nat × MixD) => l.length + 2 - y.1) ((0, startM p)) ?_ (fun y hy => have hy1 := hy.1; ?_) ?_); (focus (apply SubW [] rfl ?_ ?_ rfl ?_; (repeat' (first | exact kA | refine kB ?_ | refine kC ?_ ?_ | exact kD | fail)))))
 |((with_reducible refine round_next (i := y) (nxF p l y) ?_ ?_ ?_); (focus (apply SubW [] rfl ?_ ?_ rfl ?_; (repeat' (first | exact kA | refine kB ?_ | refine kC ?_ ?_ | exact kD | fail)))))
 |refine wA ?_
 |(refine wC ?_ ?_ <;> intro hc)
 |refine wB ?_ ?_
 |(with_reducible refine JL.block ?_)
 |(with_reducible refine F_at ?_); refine eW (vs := [(_, _), (_, _), (_, _), (_, _)]) Tryz.results83 ?_; (focus (repeat' (first | exact oA | refine oB ?_ | refine oC ?_ ?_ | fail)))
 |exact oM
 |fail)
 all_goals first
  | rfl
  | (rw [fl_err hy (by omega) (by omega) (.inl hc)] <;> rfl)
  | (rw [fl_err hy (by omega) (by omega) (.inr hc)] <;> rfl)
  | (rw [fl_bl hy (by omega) (by omega) (by assumption) (by assumption) hc] <;> rfl)
  | (rw [fl_b0 h hy (by omega) hc] <;> rfl)
  | exact fl_nx hy (by omega) (by omega) (by assumption) (by assumption) hc
  | exact fl_n0 h hy (by omega) hc
  | (unfold nxF; dsimp only; rw [if_neg (by omega)]; done)
  | (unfold nxF; dsimp only; rw [if_pos (by omega)]; done)
  | (unfold nxF; dsimp only; omega)
  | (rw [fl_end hy (by omega), if_pos (by grind)] <;> rfl)
  | (rw [fl_end hy (by omega), if_neg (by grind)] <;> rfl)
  | exact ⟨Nat.zero_le _, fun _ => rfl, fun a => absurd a (Nat.not_succ_le_zero 0)⟩
  | trace_state
end Go.Proofs.YtngjhkgcfabciaaGreat

namespace Go.Proofs.YtngjhkgcfabciaaGreat
open Go Go.RowKit
set_option linter.unusedSimpArgs false
set_option linter.unusedVariables false
theorem setErr_ok {p : Prob} {rs : List Int} (h : setErr p rs = 0) : vpErr p = 0 ∧ rs.length = p.vs.length ∧ ∀ k, k < rs.length → 1 ≤ rs.getD k 0 ∧ rs.getD k 0 ≤ 4 := by
 unfold setErr at h
 split at h
 ·contradiction
 ·split at h
  ·cases h
  ·split at h
   ·cases h
   ·rename_i h1 h2 h3
    refine ⟨by simpa using h1, by omega, fun k hk => ?_⟩
    have h3 : rs.all replOK = true := by simpa using h3
    rw [List.all_eq_true] at h3
    have := h3 _ (int_getD_mem hk)
    simpa [replOK] using this
theorem setErr_vp {p : Prob} {rs : List Int} (h : ¬ vpErr p = 0) : setErr p rs = vpErr p := by unfold setErr; rw [if_pos h]
theorem setErr_ar {p : Prob} {rs : List Int} (h : vpErr p = 0) (h1 : ¬ rs.length = p.vs.length) : setErr p rs = 6 := by unfold setErr; rw [if_neg (by simpa using h), if_pos h1]
theorem setErr_rg {p : Prob} {rs : List Int} {k : Nat} (h : vpErr p = 0) (h1 : rs.length = p.vs.length) (hk : k < rs.length) (h2 : ¬ (1 ≤ rs.getD k 0 ∧ rs.getD k 0 ≤ 4)) : setErr p rs = 7 := by
 unfold setErr
 rw [if_neg (by simpa using h), if_neg (by omega), if_pos]
 rw [List.all_eq_false]
 exact ⟨_, int_getD_mem hk, by simp only [replOK, decide_eq_true_eq]; exact h2⟩
theorem setErr_yes {p : Prob} {rs : List Int} {k : Nat} (h : vpErr p = 0) (h1 : rs.length = p.vs.length) (hk : rs.length ≤ k) (h2 : ∀ j, j < k → 1 ≤ rs.getD j 0 ∧ rs.getD j 0 ≤ 4) : setErr p rs = 0 := by
 unfold setErr
 rw [if_neg (by simpa using h), if_neg (by omega), if_neg]
 rw [Bool.not_eq_false, List.all_eq_true]
 intro x hx
 obtain ⟨i, hi, rfl⟩ := List.getElem_of_mem hx
 have := h2 i (by omega)
 rw [List.getD_eq_getElem?_getD, List.getElem?_eq_getElem hi] at this
 simp only [replOK, decide_eq_true_eq]
 exact this
theorem sum_step {l : List Int} {k : Nat} (h : k < l.length) : (l.take (k + 1)).sum = (l.take k).sum + l.getD k 0 := by
 rw [← take_snoc (d := 0) h, List.sum_append]; simp
theorem sum_le {l : List Int} (h : ∀ k, k < l.length → 1 ≤ l.getD k 0 ∧ l.getD k 0 ≤ 4) : ∀ k, k ≤ l.length → 0 ≤ (l.take k).sum ∧ (l.take k).sum ≤ 4 * k
 | 0, _ => by simp
 | k + 1, hk => by
  have h1 := sum_le h k (by omega)
  have h2 := h k (by omega)
  rw [sum_step (by omega)]
  omega
end Go.Proofs.YtngjhkgcfabciaaGreat

namespace Go.Proofs.YtngjhkgcfabciaaGreat
open Go Go.RowKit
set_option linter.unusedSimpArgs false
set_option linter.unusedVariables false
theorem runL_at {p : Prob} {m : MixD} {l : List StepD} {k : Nat} {out : List MixD} (hk : k < l.length) : runL p (l.drop k) m k out = if ¬ (applyP p m (l.getD k nilS)).2 = 0 then ([], (k : Int), (applyP p m (l.getD k nilS)).2) else runL p (l.drop (k + 1)) (applyP p m (l.getD k nilS)).1 (k + 1) (out ++ [(applyP p m (l.getD k nilS)).1]) := by
 rw [dropD_cons (d := nilS) hk]; rfl
def tr (p : Prob) : MixD → List StepD → List MixD
 | m, [] => [m]
 | m, s :: r => m :: tr p (applyP p m s).1 r
def okL (p : Prob) : MixD → List StepD → Prop
 | _, [] => True
 | m, s :: r => (applyP p m s).2 = 0 ∧ ¬ s.kind = 4 ∧ okL p (applyP p m s).1 r
theorem check_ok {p : Prob} : ∀ {l : List StepD} {m : MixD} {i : Int}, (failL p m l i).2.2.2 = 15 → okL p m l
 | [], _, _, _ => trivial
 | s :: r, m, i, h => by
  unfold failL at h
  split at h
  ·cases h
  ·rename_i h1
   split at h
   ·cases h
   ·exact ⟨Classical.byContradiction fun a => h1 (.inl a), fun a => h1 (.inr a), check_ok h⟩
theorem tr_len {p : Prob} : ∀ {l : List StepD} {m : MixD}, (tr p m l).length = l.length + 1
 | [], _ => rfl
 | s :: r, m => by unfold tr; simp [tr_len (l := r)]
theorem tr_0 {p : Prob} {m : MixD} {l : List StepD} : (tr p m l).getD 0 nilM = m := by cases l <;> rfl
theorem runL_ok {p : Prob} : ∀ {l : List StepD} {m : MixD} {i : Nat} {out : List MixD}, okL p m l → runL p l m i (out ++ [m]) = (out ++ tr p m l, ((i + l.length : Nat) : Int), 0)
 | [], m, i, out, _ => rfl
 | s :: r, m, i, out, h => by
  show (if ¬ (applyP p m s).2 = 0 then _ else runL p r (applyP p m s).1 (i + 1) (out ++ [m] ++ [(applyP p m s).1])) = _
  rw [if_neg (fun a => a h.1), runL_ok (out := out ++ [m]) h.2.2]
  simp only [tr, List.append_assoc, List.singleton_append, List.length_cons]
  congr 2
  omega
theorem tr_step {p : Prob} : ∀ {l : List StepD} {m : MixD} {k : Nat}, okL p m l → k < l.length → applyP p ((tr p m l).getD k nilM) (l.getD k nilS) = ((tr p m l).getD (k + 1) nilM, 0) ∧ ¬ (l.getD k nilS).kind = 4
 | s :: r, m, 0, h, _ => by
  refine ⟨?_, h.2.1⟩
  show applyP p m s = ((tr p (applyP p m s).1 r).getD 0 nilM, 0)
  rw [tr_0, ← h.1]
 | s :: r, m, k + 1, h, hk => tr_step (l := r) h.2.2 (by simpa using hk)
theorem tr_g {p : Prob} {l : List StepD} {m : MixD} (hm : MixG p m) (h : okL p m l) : ∀ k, k ≤ l.length → MixG p ((tr p m l).getD k nilM)
 | 0, _ => by rw [tr_0]; exact hm
 | k + 1, hk => by
  have ih := tr_g hm h k (by omega)
  have hs := (tr_step (k := k) h (by omega)).1
  have e : (applyP p ((tr p m l).getD k nilM) (l.getD k nilS)).2 = 0 := by rw [hs]
  obtain ⟨a1, a2, a3, a4⟩ := apply_after e
  have := after_g ih (stepAt_of a3 a4) a1
  rw [hs] at this
  exact this
structure PlanOK (p : Prob) (l : List StepD) : Prop where
 vp : vpErr p = 0
 ok : okL p (startM p) l
 mix : mixesP p l = tr p (startM p) l
theorem planOK_of {p : Prob} {l : List StepD} (hv : vpErr p = 0) (h0 : mixErr p (startM p) = 0) (h : checkP p l = true) : PlanOK p l := by
 have h := of_decide_eq_true h
 unfold failP at h
 rw [if_neg (by simpa using hv)] at h
 split at h
 ·cases h
 ·have ho := check_ok h
  refine ⟨hv, ho, ?_⟩
  have := runL_ok (i := 0) (out := []) ho
  unfold mixesP runP
  rw [if_neg (by simpa using h0)]
  rw [List.nil_append] at this
  rw [this]
  rfl
theorem start_err {p : Prob} (h : vpErr p = 0) : mixErr p (startM p) = 0 := by
 have hv := vp_all h
 have hg := (start_g h).inn
 have en : ∀ i, i < p.vs.length → (startM p).next.getD i 0 = -1 := fun i hi => by
  simp only [startM]
  rw [List.getD_eq_getElem?_getD, List.getElem?_replicate, if_pos hi]; rfl
 refine mixErr_ok h hg.lb hg.ln hg.lh (fun i hi => ?_) (fun i hi => ?_)
 ·unfold svcI svcE
  have := hg.rng i hi
  rw [if_neg (by omega), if_neg (by rw [en i hi]; omega)]
 ·have eh : (startM p).held.getD i 0 = startHeld p (p.tabs.getD i nilT) := by
    simp only [startM]
    rw [List.getD_eq_getElem?_getD, List.getElem?_map, List.getElem?_eq_getElem hi, List.getD_eq_getElem?_getD, List.getElem?_eq_getElem hi]; rfl
  have ht := tab_at h hi
  have hf := ht.frm
  have hr := hv.2.2.2.2 (p.tabs.getD i nilT).frm.toNat (by omega)
  rw [eh]
  unfold heldB startHeld
  by_cases hs : storedB (p.tabs.getD i nilT).kind = true
  ·rw [if_pos hs, if_pos hs]
   have er : runS (startM p) (p.tabs.getD i nilT).frm = one8 (p.now.getD (p.tabs.getD i nilT).frm.toNat 0) := by
    unfold runS runV
    rw [en _ (by omega), if_neg (by decide)]
    rfl
   rw [er]
   have gen : ∀ a n : Int, 0 ≤ a → a < n → n ≤ 6 → bits BinOp.andNot IntKind.u8 (one8 a) (allV n) = 0 ∧ bits BinOp.andNot IntKind.u8 (one8 a) (one8 a) = 0 := by
    intro a n h1 h2 h3
    have ha : a = 0 ∨ a = 1 ∨ a = 2 ∨ a = 3 ∨ a = 4 ∨ a = 5 := by omega
    have hn : n = 1 ∨ n = 2 ∨ n = 3 ∨ n = 4 ∨ n = 5 ∨ n = 6 := by omega
    rcases ha with rfl | rfl | rfl | rfl | rfl | rfl <;> rcases hn with rfl | rfl | rfl | rfl | rfl | rfl <;> first | (exfalso; omega) | decide
   have := gen _ _ hr.2.1.1 hr.2.1.2 hr.1.2
   rw [this.1, this.2]; rfl
  ·rw [if_neg hs, if_neg hs]; rfl
theorem PlanOK.step {p : Prob} {l : List StepD} (h : PlanOK p l) {k : Nat} (hk : k < l.length) : StepAt p (l.getD k nilS) ∧ (1 ≤ (l.getD k nilS).kind ∧ (l.getD k nilS).kind ≤ 3) ∧ applyP p ((mixesP p l).getD k nilM) (l.getD k nilS) = ((mixesP p l).getD (k + 1) nilM, 0) := by
 obtain ⟨h1, h2⟩ := tr_step (k := k) h.ok hk
 have e : (applyP p ((tr p (startM p) l).getD k nilM) (l.getD k nilS)).2 = 0 := by rw [h1]
 obtain ⟨a1, a2, a3, a4⟩ := apply_after e
 have hk4 : 1 ≤ (l.getD k nilS).kind ∧ (l.getD k nilS).kind ≤ 4 := by simp only [stepOK, decide_eq_true_eq] at a3; omega
 refine ⟨stepAt_of a3 a4, by omega, ?_⟩
 rw [h.mix]; exact h1
theorem PlanOK.len {p : Prob} {l : List StepD} (h : PlanOK p l) : (mixesP p l).length = l.length + 1 := by rw [h.mix, tr_len]
theorem PlanOK.g {p : Prob} {l : List StepD} (h : PlanOK p l) {k : Nat} (hk : k ≤ l.length) : MixG p ((mixesP p l).getD k nilM) := by rw [h.mix]; exact tr_g (start_g h.vp) h.ok k hk
theorem abort_at {p : Prob} {s : StepD} (h : StepAt p s) (hk : ¬ s.kind = 3) : StepAt p ⟨4, s.idx, 0⟩ := ⟨h.nn, fun a => absurd (show (4 : Int) = 3 from a) (by decide), fun _ => h.svc hk, fun a => absurd (show (4 : Int) = 1 from a) (by decide)⟩
end Go.Proofs.YtngjhkgcfabciaaGreat

namespace Go.Proofs.YtngjhkgcfabciaaGreat
open Go Go.RowKit
set_option maxRecDepth 100000
set_option maxHeartbeats 8000000
set_option linter.unusedSimpArgs false
set_option linter.unusedVariables false
theorem setting_fn (p : Prob) (rs : List Int) : FnSound Tryz.prog 46 [.val true (probC p), .val false [.d (.sl 1 (dInts rs))]] [] { vals := [(false, [.d (.v (.int .i64 (setErr p rs)))])] } := by
 refine startW (tm := [(0, _), (1, _)]) Tryz.func46 rfl Tryz.ntmps46 rfl rfl rfl rfl ?_
 repeat' (first
 |(with_reducible refine rgn 9 900 ?_ ?_); exact rfl
 |(with_reducible refine rgn 10 1000 ?_ ?_); exact rfl
 |(with_reducible refine rgn 8 1100 ?_ ?_); exact rfl
 |(with_reducible refine K_ca 74 ?_); refine zC (rvp_fn p) ?_
 |(with_reducible refine blk_at (id := 0) ?_); ((with_reducible refine JL.loopW 0 799 (fun (k : Nat) tm => (6, .one false [.d (.v (.int .i64 ((k : Int))))]) :: tm) (fun (k : Nat) bo => bo) (fun (k : Nat) => k ≤ rs.length ∧ ∀ j, j < k → 1 ≤ rs.getD j 0 ∧ rs.getD j 0 ≤ 4) (fun (k : Nat) => rs.length - k) (0) ?_ (fun k hk => have hvp := vp_all (p := p) (by assumption); ?_) ?_); (focus (apply SubW [] rfl ?_ ?_ rfl ?_; (repeat' (first | exact kA | refine kB ?_ | refine kC ?_ ?_ | exact kD | fail)))))
 |((with_reducible refine round_next (i := k) (k + 1) ?_ ?_ ?_); (focus (apply SubW [] rfl ?_ ?_ rfl ?_; (repeat' (first | exact kA | refine kB ?_ | refine kC ?_ ?_ | exact kD | fail)))))
 |refine wA ?_
 |(refine wC ?_ ?_ <;> intro hc)
 |refine wB ?_ ?_
 |(with_reducible refine JL.block ?_)
 |(with_reducible refine F_at ?_); refine eW (vs := [(_, _)]) Tryz.results46 ?_; (focus (repeat' (first | exact oA | refine oB ?_ | refine oC ?_ ?_ | fail)))
 |exact oM
 |fail)
 all_goals first
  | exact (setErr_vp hc).symm
  | exact (setErr_ar (by assumption) (by omega)).symm
  | exact (setErr_rg (k := k) (by assumption) (by omega) (by omega) (by omega)).symm
  | exact (setErr_yes (k := k) (by assumption) (by omega) (by omega) hk.2).symm
  | (refine ⟨by omega, fun j hj => ?_⟩; by_cases e : j = k; (subst e; omega); exact hk.2 j (by omega))
  | (refine ⟨Nat.zero_le _, fun j hj => absurd hj (Nat.not_lt_zero j)⟩)
theorem settingOK_fn {p : Prob} {rs : List Int} (h : setErr p rs = 0) : FnSound Tryz.prog 46 [.val true (probC p), .val false [.d (.sl 1 (dInts rs))]] [] { vals := [(false, [.d (.v (.int .i64 0))])] } := by rw [← h]; exact setting_fn p rs
theorem first_fn (rs : List Int) (s : Int) (hs : 0 ≤ s ∧ s ≤ rs.length) (hr : ∀ k, k < rs.length → 1 ≤ rs.getD k 0 ∧ rs.getD k 0 ≤ 4) (hl : rs.length ≤ 100) : FnSound Tryz.prog 51 [.val false [.d (.sl 1 (dInts rs))], .val false [.d (.v (.int .i64 s))]] [] { vals := [(false, [.d (.v (.int .i64 (firstR rs s)))])] } := by
 have hsl := sum_le hr
 refine startW (tm := [(0, _), (1, _)]) Tryz.func51 rfl Tryz.ntmps51 rfl rfl rfl rfl ?_
 repeat' (first
 |(with_reducible refine rgn 5 500 ?_ ?_); exact rfl
 |(with_reducible refine rgn 4 600 ?_ ?_); exact rfl
 |(with_reducible refine blk_at (id := 0) ?_); ((with_reducible refine JL.loopW 0 399 (fun (k : Nat) tm => (6, .one false [.d (.v (.int .i64 ((k : Int))))]) :: (5, .one false [.d (.v (.int .i64 ((rs.take k).sum)))]) :: tm) (fun (k : Nat) bo => bo) (fun (k : Nat) => (k : Int) ≤ s) (fun (k : Nat) => s.toNat - k) (0) ?_ (fun k hk => have h1 := hsl k; have h2 := hr k; ?_) ?_); (focus (apply SubW [] rfl ?_ ?_ rfl ?_; (repeat' (first | exact kA | refine kB ?_ | refine kC ?_ ?_ | exact kD | fail)))))
 |((with_reducible refine round_next (i := k) (k + 1) ?_ ?_ ?_); (focus (apply SubW [] rfl ?_ ?_ rfl ?_; (repeat' (first | exact kA | refine kB ?_ | refine kC ?_ ?_ | exact kD | fail)))))
 |refine wA ?_
 |(refine wC ?_ ?_ <;> intro hc)
 |refine wB ?_ ?_
 |(with_reducible refine JL.block ?_)
 |(with_reducible refine F_at ?_); refine eW (vs := [(_, _)]) Tryz.results51 ?_; (focus (repeat' (first | exact oA | refine oB ?_ | refine oC ?_ ?_ | fail)))
 |exact oM
 |fail)
 all_goals first
  | rfl
  | (rw [sum_step (by omega)])
  | (have e : k = s.toNat := by omega
     rw [e]; rfl)
theorem check_fn (p : Prob) (l : List StepD) (h : vpErr p = 0) (hl : l.length ≤ 1000000) : FnSound Tryz.prog 47 [.val true (probC p), .val false [.d (.sl 3 (dSteps l))]] [] { vals := [(false, [.d (.v (.bool (checkP p l)))])] } := by
 refine startW (tm := [(0, _), (1, _)]) Tryz.func47 rfl Tryz.ntmps47 rfl rfl rfl rfl ?_
 repeat' (first
 |(with_reducible refine K_ca 83 ?_); refine zC (fail_fn p l h hl) ?_
 |refine wA ?_
 |(refine wC ?_ ?_ <;> intro hc)
 |refine wB ?_ ?_
 |(with_reducible refine JL.block ?_)
 |(with_reducible refine F_at ?_); refine eW (vs := [(_, _)]) Tryz.results47 ?_; (focus (repeat' (first | exact oA | refine oB ?_ | refine oC ?_ ?_ | fail)))
 |exact oM
 |fail)
 all_goals rfl
theorem new_fn (p : Prob) (rs : List Int) (l : List StepD) (hs : setErr p rs = 0) (hc : checkP p l = true) (hl : l.length ≤ 1000000) : FnSound Tryz.prog 24 [.val true (probC p), .val false [.d (.sl 1 (dInts rs))], .val false [.d (.sl 3 (dSteps l))]] [] { vals := [(true, ctlC (newP p rs l).1), (false, [.d (.v (.int .i64 0))])] } := by
 have hv := (setErr_ok hs).1
 have hk := check_fn p l hv hl
 rw [hc] at hk
 have e : (newP p rs l).1 = ⟨l, 0, if l.length = 0 then 6 else 0, 0, 0, 0, startM p⟩ := by unfold newP; rw [if_neg (by simpa using hs), hc, if_neg (by decide)]
 rw [e]
 refine startW (tm := [(0, _), (1, _), (2, _)]) Tryz.func24 rfl Tryz.ntmps24 rfl rfl rfl rfl ?_
 repeat' (first
 |(with_reducible refine K_ca 46 ?_); refine zC (settingOK_fn hs) ?_
 |(with_reducible refine K_ca 47 ?_); refine zC (hk) ?_
 |(with_reducible refine K_ca 42 ?_); refine zC (start_fn p hv) ?_
 |refine wA ?_
 |(refine wC ?_ ?_ <;> intro hc)
 |refine wB ?_ ?_
 |(with_reducible refine JL.block ?_)
 |(with_reducible refine F_at ?_); refine eW (vs := [(_, _), (_, _)]) Tryz.results24 ?_; (focus (repeat' (first | exact oA | refine oB ?_ | refine oC ?_ ?_ | fail)))
 |exact oM
 |fail)
 all_goals first | rfl | (rw [if_pos (by omega)] <;> rfl) | (rw [if_neg (by omega)] <;> rfl) | trace_state
theorem runs_fn (p : Prob) (m : MixD) (l : List StepD) (hm : MixG p m) (h : mixErr p m = 0) (hl : l.length ≤ 1000000) : FnSound Tryz.prog 105 [.val true (probC p), .val true (mixC m), .val false [.d (.sl 3 (dSteps l))]] [] { vals := [(false, [.d (.sl 3 (dMixes (runP p m l).1))]), (false, [.d (.v (.int .i64 (runP p m l).2.1))]), (false, [.d (.v (.int .i64 (runP p m l).2.2))])] } := by
 refine startW (tm := [(0, _), (1, _), (2, _)]) Tryz.func105 rfl Tryz.ntmps105 rfl rfl rfl rfl ?_
 repeat' (first
 |(with_reducible refine rgn 8 800 ?_ ?_); exact rfl
 |(with_reducible refine rgn 9 900 ?_ ?_); exact rfl
 |(with_reducible refine rgn 10 1000 ?_ ?_); exact rfl
 |(with_reducible refine rgn 11 1100 ?_ ?_); exact rfl
 |(with_reducible refine rgn 7 1200 ?_ ?_); exact rfl
 |(with_reducible refine K_ca 80 ?_); refine zC (mixValidOK_fn h) ?_
 |(with_reducible refine K_ca 101 ?_); refine zC (apply_fn p (y.2.getD y.1 nilM) (l.getD y.1 nilS)) ?_
 |(with_reducible refine blk_at (id := 0) ?_); (try (refine JL.zeroW 10 _ 45 3 rfl rfl ?_)); (refine JL.rekW 10 (1160, 651) rfl rfl rfl rfl ?_); ((with_reducible refine JL.loopW 0 699 (fun (y : Nat × List MixD) tm => (11, .one false [.d (.v (.int .i64 ((y.1 : Int))))]) :: (10, .one false [.own (1160, 651)]) :: tm) (fun (y : Nat × List MixD) bo => ((1160, 651), some (.sl 45 3 ((dMixes y.2)))) :: bo) (fun (y : Nat × List MixD) => y.1 ≤ l.length ∧ y.2.length = y.1 + 1 ∧ runL p (l.drop y.1) (y.2.getD y.1 nilM) y.1 y.2 = runP p m l) (fun (y : Nat × List MixD) => l.length - y.1) ((0, [m])) ?_ (fun y hy => ?_) ?_); (focus (apply SubW [((1160, 651), _)] rfl ?_ ?_ rfl ?_; (repeat' (first | exact kA | refine kB ?_ | refine kC ?_ ?_ | exact kD | fail)))))
 |((with_reducible refine round_next (i := y) ((y.1 + 1, y.2 ++ [(applyP p (y.2.getD y.1 nilM) (l.getD y.1 nilS)).1])) ?_ ?_ ?_); (focus (apply SubW [((1160, 651), _)] rfl ?_ ?_ rfl ?_; (repeat' (first | exact kA | refine kB ?_ | refine kC ?_ ?_ | exact kD | fail)))))
 |refine wA ?_
 |(refine wC ?_ ?_ <;> intro hc)
 |refine wB ?_ ?_
 |(with_reducible refine JL.block ?_)
 |(with_reducible refine F_at ?_); refine eW (vs := [(_, _), (_, _), (_, _)]) Tryz.results105 ?_; (focus (repeat' (first | exact oA | refine oB ?_ | refine oC ?_ ?_ | fail)))
 |exact oM
 |fail)
 all_goals first
  | rfl
  | (rw [← hy.2.2, runL_at (by omega), if_pos hc] <;> rfl)
  | (rw [← hy.2.2, List.drop_eq_nil_of_le (by omega)] <;> rfl)
  | (rw [← hy.2.2, List.drop_eq_nil_of_le (by omega)]; show (l.length : Int) = (y.1 : Int); omega)
  | (refine ⟨by dsimp only; omega, by dsimp only; rw [List.length_append, hy.2.1]; rfl, ?_⟩
     rw [← hy.2.2, runL_at (k := y.1) (by omega), if_neg (fun a => a hc)]
     dsimp only
     rw [show y.1 + 1 = y.2.length from hy.2.1.symm, getD_last])
  | (refine ⟨Nat.zero_le _, rfl, ?_⟩; unfold runP; rw [if_neg (by simpa using h)]; rfl)
  | trace_state
theorem mixes_fn (p : Prob) (l : List StepD) (h : PlanOK p l) (hl : l.length ≤ 1000000) : FnSound Tryz.prog 84 [.val true (probC p), .val false [.d (.sl 3 (dSteps l))]] [] { vals := [(false, [.d (.sl 3 (dMixes (mixesP p l)))])] } := by
 refine startW (tm := [(0, _), (1, _)]) Tryz.func84 rfl Tryz.ntmps84 rfl rfl rfl rfl ?_
 repeat' (first
 |(with_reducible refine K_ca 42 ?_); refine zC (start_fn p h.vp) ?_
 |(with_reducible refine K_ca 105 ?_); refine zC (runs_fn p (startM p) l (start_g h.vp) (start_err h.vp) hl) ?_
 |refine wA ?_
 |(refine wC ?_ ?_ <;> intro hc)
 |refine wB ?_ ?_
 |(with_reducible refine JL.block ?_)
 |(with_reducible refine F_at ?_); refine eW (vs := [(_, _)]) Tryz.results84 ?_; (focus (repeat' (first | exact oA | refine oB ?_ | refine oC ?_ ?_ | fail)))
 |exact oM
 |fail)
 all_goals rfl
theorem aborted_fn (p : Prob) (l : List StepD) (at_ : Int) (h : PlanOK p l) (hl : l.length ≤ 1000000) (ha : 0 ≤ at_ ∧ at_ < l.length) (hk : (l.getD at_.toNat nilS).kind = 1) : FnSound Tryz.prog 49 [.val true (probC p), .val false [.d (.sl 3 (dSteps l))], .val false [.d (.v (.int .i64 at_))]] [] { vals := [(true, mixC (abortedP p l at_))] } := by
 have hln := h.len
 have hst := h.step (k := at_.toNat) (by omega)
 refine startW (tm := [(0, _), (1, _), (2, _)]) Tryz.func49 rfl Tryz.ntmps49 rfl rfl rfl rfl ?_
 repeat' (first
 |(with_reducible refine K_ca 84 ?_); refine zC (mixes_fn p l h hl) ?_
 |(with_reducible refine K_ca 78 ?_); refine zC (after_fn p ((mixesP p l).getD (at_ + 1).toNat nilM) ⟨4, (l.getD at_.toNat nilS).idx, 0⟩ (h.g (by omega)).inn (abort_at hst.1 (by omega)) ⟨show (1 : Int) ≤ 4 by decide, show (4 : Int) ≤ 4 by decide⟩) ?_
 |refine wA ?_
 |(refine wC ?_ ?_ <;> intro hc)
 |refine wB ?_ ?_
 |(with_reducible refine JL.block ?_)
 |(with_reducible refine F_at ?_); refine eW (vs := [(_, _)]) Tryz.results49 ?_; (focus (repeat' (first | exact oA | refine oB ?_ | refine oC ?_ ?_ | fail)))
 |exact oM
 |fail)
 all_goals first | rfl | trace_state
theorem kind_fn (l : List StepD) (at_ : Int) (ha : 0 ≤ at_) (hl : l.length ≤ 1000000) : FnSound Tryz.prog 86 [.val false [.d (.sl 3 (dSteps l))], .val false [.d (.v (.int .i64 at_))]] [] { vals := [(false, [.d (.v (.int .i64 (kindP l at_)))])] } := by
 refine startW (tm := [(0, _), (1, _)]) Tryz.func86 rfl Tryz.ntmps86 rfl rfl rfl rfl ?_
 repeat' (first
 |refine wA ?_
 |(refine wC ?_ ?_ <;> intro hc)
 |refine wB ?_ ?_
 |(with_reducible refine JL.block ?_)
 |(with_reducible refine F_at ?_); refine eW (vs := [(_, _)]) Tryz.results86 ?_; (focus (repeat' (first | exact oA | refine oB ?_ | refine oC ?_ ?_ | fail)))
 |exact oM
 |fail)
 all_goals (unfold kindP; first | rw [if_pos hc] | rw [if_neg hc])
theorem expect_fn (p : Prob) (l : List StepD) (at_ ph : Int) (hv : vpErr p = 0) (hl : l.length ≤ 1000000) : FnSound Tryz.prog 85 [.val true (probC p), .val false [.d (.sl 3 (dSteps l))], .val false [.d (.v (.int .i64 at_))], .val false [.d (.v (.int .i64 ph))]] [] { vals := [(true, mixC (expectP p l at_ ph).1), (false, [.d (.v (.int .i64 (expectP p l at_ ph).2))])] } := by
 have hk := check_fn p l hv hl
 cases hck : checkP p l with
 | false =>
  rw [hck] at hk
  have e : expectP p l at_ ph = (nilM, 13) := by unfold expectP; rw [if_neg (by simpa using hv), if_pos hck]
  rw [e]
  refine startW (tm := [(0, _), (1, _), (2, _), (3, _)]) Tryz.func85 rfl Tryz.ntmps85 rfl rfl rfl rfl ?_
  repeat' (first
 |(with_reducible refine K_ca 74 ?_); refine zC (rvpOK_fn hv) ?_
 |(with_reducible refine K_ca 47 ?_); refine zC (hk) ?_
 |refine wA ?_
 |(refine wC ?_ ?_ <;> intro hc)
 |refine wB ?_ ?_
 |(with_reducible refine JL.block ?_)
 |(with_reducible refine F_at ?_); refine eW (vs := [(_, _), (_, _)]) Tryz.results85 ?_; (focus (repeat' (first | exact oA | refine oB ?_ | refine oC ?_ ?_ | fail)))
 |exact oM
 |fail)
  all_goals rfl
 | true =>
  rw [hck] at hk
  have hp := planOK_of hv (start_err hv) hck
  have hln := hp.len
  have e : expectP p l at_ ph = if at_ < 0 ∨ l.length < at_ ∨ ¬ (ph = 6 ↔ at_ = l.length) then (nilM, 7)
   else if ph = 0 ∨ ph = 6 ∨ (ph = 1 ∧ kindP l at_ = 2) ∨ (ph = 4 ∧ kindP l at_ = 3) then ((mixesP p l).getD at_.toNat nilM, 0)
   else if (ph = 1 ∨ ph = 2 ∨ ph = 3) ∧ kindP l at_ = 1 then ((mixesP p l).getD (at_ + 1).toNat nilM, 0)
   else if ph = 5 ∧ kindP l at_ = 1 then (abortedP p l at_, 0)
   else (nilM, 7) := by unfold expectP; rw [if_neg (by simpa using hv), if_neg (by rw [hck]; decide)]
  rw [e]
  have hkl : kindP l at_ = 1 → at_ < l.length ∧ (l.getD at_.toNat nilS).kind = 1 := fun a => by
   unfold kindP at a
   split at a
   ·exact ⟨by assumption, a⟩
   ·cases a
  refine startW (tm := [(0, _), (1, _), (2, _), (3, _)]) Tryz.func85 rfl Tryz.ntmps85 rfl rfl rfl rfl ?_
  repeat' (first
 |(with_reducible refine K_ca 74 ?_); refine zC (rvpOK_fn hv) ?_
 |(with_reducible refine K_ca 47 ?_); refine zC (hk) ?_
 |(with_reducible refine K_ca 84 ?_); refine zC (mixes_fn p l hp hl) ?_
 |(with_reducible refine K_ca 86 ?_); refine zC (kind_fn l at_ (by omega) hl) ?_
 |(with_reducible refine K_ca 49 ?_); refine zC (aborted_fn p l at_ hp hl (by omega) (hkl (by assumption)).2) ?_
 |refine wA ?_
 |(refine wC ?_ ?_ <;> intro hc)
 |refine wB ?_ ?_
 |(with_reducible refine JL.block ?_)
 |(with_reducible refine F_at ?_); refine eW (vs := [(_, _), (_, _)]) Tryz.results85 ?_; (focus (repeat' (first | exact oA | refine oB ?_ | refine oC ?_ ?_ | fail)))
 |exact oM
 |fail)
  all_goals ((repeat' split) <;> first | rfl | (exfalso; grind) | trace_state)
end Go.Proofs.YtngjhkgcfabciaaGreat

namespace Go.Proofs.YtngjhkgcfabciaaGreat
open Go Go.RowKit
set_option linter.unusedSimpArgs false
set_option linter.unusedVariables false
theorem PlanOK.after {p : Prob} {l : List StepD} (h : PlanOK p l) {k : Nat} (hk : k < l.length) : afterP p ((mixesP p l).getD k nilM) (l.getD k nilS) = some ((mixesP p l).getD (k + 1) nilM) := by
 have hs := (h.step hk).2.2
 have e : (applyP p ((mixesP p l).getD k nilM) (l.getD k nilS)).2 = 0 := by rw [hs]
 have := (apply_after e).1
 rw [hs] at this
 exact this
theorem PlanOK.valid {p : Prob} {l : List StepD} (h : PlanOK p l) {k : Nat} (hk : k < l.length) : mixErr p ((mixesP p l).getD k nilM) = 0 := by
 have hs := (h.step hk).2.2
 have e : (applyP p ((mixesP p l).getD k nilM) (l.getD k nilS)).2 = 0 := by rw [hs]
 exact (apply_after e).2.1
theorem of_u8 (z : BitVec 8) : BitVec.ofInt 8 (IntKind.u8.wrap (z.toNat : Int)) = z := by
 have h1 : IntKind.u8.wrap (z.toNat : Int) = (z.toNat : Int) := by
  have := z.isLt
  simp only [IntKind.wrap, IntKind.bits, IntKind.signed]
  simp
  omega
 rw [h1]
 apply BitVec.eq_of_toNat_eq
 simp
theorem or_or {a b : Int} : bits BinOp.or IntKind.u8 (bits BinOp.or IntKind.u8 a b) b = bits BinOp.or IntKind.u8 a b := by
 show IntKind.u8.wrap (((BitVec.ofInt 8 (IntKind.u8.wrap (((BitVec.ofInt 8 a ||| BitVec.ofInt 8 b).toNat : Nat) : Int))) ||| BitVec.ofInt 8 b).toNat : Int) = IntKind.u8.wrap ((BitVec.ofInt 8 a ||| BitVec.ofInt 8 b).toNat : Int)
 rw [of_u8, BitVec.or_assoc, BitVec.or_self]
theorem mix_ext {a b : MixD} (h1 : a.base = b.base) (h2 : a.next = b.next) (h3 : a.held = b.held) : a = b := by
 cases a; cases b; simp only [MixD.mk.injEq] at *; exact ⟨h1, h2, h3⟩
theorem start_abort {p : Prob} {m x : MixD} {s : StepD} (hm : MixG p m) (hs : StepAt p s) (hk : s.kind = 1) (h : afterP p m s = some x) : ∃ y, afterP p x ⟨4, s.idx, 0⟩ = some y ∧ MixG p y ∧ afterP p y s = some x := by
 have hx := after_g hm hs h
 have hv := hs.ver hk
 have h0 := hs.nn
 have h1 := hs.svc (by omega)
 have hi : s.idx.toNat < m.next.length := by have := hm.inn.ln; omega
 rw [after1 hk] at h
 split at h
 ·cases h
 ·rename_i hc
  cases h
  have en : (startedM p m s).next.getD s.idx.toNat 0 = s.ver := by
   simp only [startedM]; rw [getDi_set, if_pos ⟨rfl, hi⟩]
  have e4 : afterP p (startedM p m s) ⟨4, s.idx, 0⟩ = some ⟨m.base, (startedM p m s).next.set s.idx.toNat (-1), (startedM p m s).held⟩ := by
   rw [after4 (by show ¬ (4 : Int) = 1; decide) (by show ¬ (4 : Int) = 2; decide) (by show ¬ (4 : Int) = 3; decide)]
   rw [if_neg (by show ¬ (startedM p m s).next.getD s.idx.toNat 0 < 0; rw [en]; omega)]
   rfl
  refine ⟨_, e4, after_g hx (abort_at hs (by omega)) e4, ?_⟩
  have en2 : ((startedM p m s).next.set s.idx.toNat (-1)).getD s.idx.toNat 0 = -1 := by
   rw [getDi_set, if_pos ⟨rfl, by simp only [startedM]; rw [set_len]; exact hi⟩]
  rw [after1 hk, if_neg (by
   show ¬ (0 ≤ ((startedM p m s).next.set s.idx.toNat (-1)).getD s.idx.toNat 0 ∨ s.ver = m.base.getD s.idx.toNat 0)
   rw [en2]
   rintro (a | a)
   ·omega
   ·exact hc (.inr a))]
  refine congrArg some (mix_ext rfl ?_ ?_)
  ·simp only [startedM, List.set_set]
  ·refine getD_ext (by simp [startedM]) fun j hj => ?_
   have hj' : j < m.held.length := by simpa [startedM] using hj
   have eh : (startedM p m s).held.getD j 0 = heldUp p s.idx s.ver (p.tabs.getD j nilT) (m.held.getD j 0) := by
    simp only [startedM]
    rw [List.getD_eq_getElem?_getD, List.getElem?_map, List.getElem?_range hj']; rfl
   have eh2 : (startedM p ⟨m.base, (startedM p m s).next.set s.idx.toNat (-1), (startedM p m s).held⟩ s).held.getD j 0 = heldUp p s.idx s.ver (p.tabs.getD j nilT) ((startedM p m s).held.getD j 0) := by
    have hl : j < (startedM p m s).held.length := by simpa [startedM] using hj'
    show (((List.range (startedM p m s).held.length).map fun k => heldUp p s.idx s.ver (p.tabs.getD k nilT) ((startedM p m s).held.getD k 0))).getD j 0 = _
    rw [List.getD_eq_getElem?_getD, List.getElem?_map, List.getElem?_range hl]; rfl
   rw [eh2, eh]
   unfold heldUp
   split
   ·exact or_or
   ·rfl
theorem PlanOK.abort {p : Prob} {l : List StepD} (h : PlanOK p l) {a : Int} (ha : 0 ≤ a ∧ a < l.length) (hk : (l.getD a.toNat nilS).kind = 1) : MixG p (abortedP p l a) ∧ afterP p (abortedP p l a) (l.getD a.toNat nilS) = some ((mixesP p l).getD (a + 1).toNat nilM) ∧ afterP p ((mixesP p l).getD (a + 1).toNat nilM) ⟨4, (l.getD a.toNat nilS).idx, 0⟩ = some (abortedP p l a) := by
 have hlt : a.toNat < l.length := by omega
 obtain ⟨y, h1, h2, h3⟩ := start_abort (h.g (k := a.toNat) (by omega)) (h.step hlt).1 hk (h.after hlt)
 have e : (a + 1).toNat = a.toNat + 1 := by omega
 have ea : abortedP p l a = y := by unfold abortedP abortM; rw [e, h1]; rfl
 rw [ea, e]
 exact ⟨h2, h3, h1⟩
structure CtlK (p : Prob) (c : CtlD) : Prop where
 plan : PlanOK p c.plan
 rng : 0 ≤ c.at_ ∧ c.at_ ≤ c.plan.length
 fin : c.phase = 6 ↔ c.at_ = c.plan.length
 ph0 : c.phase = 0 → c.mix = (mixesP p c.plan).getD c.at_.toNat nilM ∨ ((present c).kind = 1 ∧ c.mix = abortedP p c.plan c.at_)
 ph1 : c.phase = 1 → ((present c).kind = 1 ∧ c.mix = (mixesP p c.plan).getD (c.at_ + 1).toNat nilM) ∨ ((present c).kind = 2 ∧ c.mix = (mixesP p c.plan).getD c.at_.toNat nilM)
 ph2 : c.phase = 2 ∨ c.phase = 3 → (present c).kind = 1 ∧ c.mix = (mixesP p c.plan).getD (c.at_ + 1).toNat nilM
 ph4 : c.phase = 4 → (present c).kind = 3 ∧ c.mix = (mixesP p c.plan).getD c.at_.toNat nilM
 ph5 : c.phase = 5 → (present c).kind = 1 ∧ c.mix = abortedP p c.plan c.at_
 ph6 : c.phase = 6 → c.mix = (mixesP p c.plan).getD c.at_.toNat nilM
 phs : 0 ≤ c.phase ∧ c.phase ≤ 6
theorem CtlK.lt {p : Prob} {c : CtlD} (h : CtlK p c) (hp : ¬ c.phase = 6) : c.at_ < c.plan.length := by
 have h1 := h.rng
 have h2 : ¬ c.at_ = c.plan.length := fun e => hp (h.fin.2 e)
 omega
theorem CtlK.g {p : Prob} {c : CtlD} (h : CtlK p c) : MixG p c.mix := by
 have hr := h.rng
 have hp := h.plan
 by_cases h6 : c.phase = 6
 ·rw [h.ph6 h6]; exact hp.g (by omega)
 ·have hlt := h.lt h6
  have hps := h.phs
  have ab : (present c).kind = 1 → MixG p (abortedP p c.plan c.at_) := fun a => (hp.abort ⟨hr.1, hlt⟩ a).1
  have : c.phase = 0 ∨ c.phase = 1 ∨ c.phase = 2 ∨ c.phase = 3 ∨ c.phase = 4 ∨ c.phase = 5 := by omega
  rcases this with e | e | e | e | e | e
  ·rcases h.ph0 e with m | ⟨k, m⟩
   ·rw [m]; exact hp.g (by omega)
   ·rw [m]; exact ab k
  ·rcases h.ph1 e with ⟨k, m⟩ | ⟨k, m⟩
   ·rw [m]; exact hp.g (by omega)
   ·rw [m]; exact hp.g (by omega)
  ·rw [(h.ph2 (.inl e)).2]; exact hp.g (by omega)
  ·rw [(h.ph2 (.inr e)).2]; exact hp.g (by omega)
  ·rw [(h.ph4 e).2]; exact hp.g (by omega)
  ·have := h.ph5 e
   rw [this.2]; exact ab this.1
theorem CtlK.st {p : Prob} {c : CtlD} (h : CtlK p c) (hp : ¬ c.phase = 6) : StepAt p (present c) ∧ 1 ≤ (present c).kind ∧ (present c).kind ≤ 3 := by
 have := h.plan.step (k := c.at_.toNat) (by have := h.lt hp; have := h.rng; omega)
 exact ⟨this.1, this.2.1⟩
end Go.Proofs.YtngjhkgcfabciaaGreat

