/- Rules of runs and contracts of functions, for the claims of one seat. -/
import Derived.Test.YtfnljcallbalgaaGreatDoorUA13
import Derived.Test.YtfnljcallbalgaaGreatDoorUA16
import Derived.Test.YtfnljcallbalgaaGreatDoorUA22
import Derived.Test.YtfnljcallbalgaaGreatDoorUA24
namespace Go.Proofs.YtfnljcallbalgaaGreatDoor
open Go Go.RowKit
set_option maxRecDepth 100000
set_option maxHeartbeats 8000000
set_option linter.unusedSimpArgs false
set_option linter.unusedVariables false
theorem MixG.few {p : Prob} {m : MixD} (h : MixG p m) : Few m := h.inn.few
end Go.Proofs.YtfnljcallbalgaaGreatDoor

namespace Go.Proofs.YtfnljcallbalgaaGreatDoor
open Go Go.RowKit
set_option maxRecDepth 100000
set_option maxHeartbeats 8000000
set_option linter.unusedSimpArgs false
set_option linter.unusedVariables false
theorem blameA_fn (p : Prob) (m : MixD) : FnSound Tryz.prog 139 [.val true (probC p), .val true (mixC m)] [] { vals := [(true, mixC (blameP p m).1), (true, confC (blameP p m).2.1), (false, [.d (.v (.int .i64 (blameP p m).2.2))])] } := by
 by_cases h : mixErr p m = 0
 ·exact blame_fn p m h
 ·exact blame0_fn p m h
theorem failL_at {p : Prob} {m : MixD} {l : List StepD} {k : Nat} {i : Int} (hk : k < l.length) : failL p m (l.drop k) i = if ¬ (applyP p m (l.getD k nilS)).2 = 0 ∨ (l.getD k nilS).kind = 4 then (i, nilM, nilC, 0)
    else if (blameP p (applyP p m (l.getD k nilS)).1).2.2 = 0 then (i, (blameP p (applyP p m (l.getD k nilS)).1).1, (blameP p (applyP p m (l.getD k nilS)).1).2.1, 0)
    else failL p (applyP p m (l.getD k nilS)).1 (l.drop (k + 1)) (i + 1) := by
 rw [dropD_cons (d := nilS) hk]; rfl
def nxF (p : Prob) (l : List StepD) (y : Nat × MixD) : Nat × MixD := (y.1 + 1, if y.1 = 0 then y.2 else (applyP p y.2 (l.getD ((y.1 : Int) - 1).toNat nilS)).1)
abbrev FI (p : Prob) (l : List StepD) (y : Nat × MixD) : Prop := y.1 ≤ l.length + 1 ∧ (y.1 = 0 → y.2 = startM p) ∧ (1 ≤ y.1 → failL p y.2 (l.drop (y.1 - 1)) ((y.1 : Int) - 1) = failP p l)
theorem fl_err {p : Prob} {l : List StepD} {y : Nat × MixD} (hy : FI p l y) (h1 : 1 ≤ y.1) (h2 : y.1 ≤ l.length) (h : ¬ (applyP p y.2 (l.getD ((y.1 : Int) - 1).toNat nilS)).2 = 0 ∨ (l.getD ((y.1 : Int) - 1).toNat nilS).kind = 4) : failP p l = ((y.1 : Int) - 1, nilM, nilC, 0) := by
 rw [show ((y.1 : Int) - 1).toNat = y.1 - 1 by omega] at h
 rw [← hy.2.2 h1, failL_at (by omega), if_pos h]
theorem fl_bl {p : Prob} {l : List StepD} {y : Nat × MixD} (hy : FI p l y) (h1 : 1 ≤ y.1) (h2 : y.1 ≤ l.length) (h3 : (applyP p y.2 (l.getD ((y.1 : Int) - 1).toNat nilS)).2 = 0) (h4 : ¬ (l.getD ((y.1 : Int) - 1).toNat nilS).kind = 4) (h : (blameP p (applyP p y.2 (l.getD ((y.1 : Int) - 1).toNat nilS)).1).2.2 = 0) : failP p l = ((y.1 : Int) - 1, (blameP p (applyP p y.2 (l.getD ((y.1 : Int) - 1).toNat nilS)).1).1, (blameP p (applyP p y.2 (l.getD ((y.1 : Int) - 1).toNat nilS)).1).2.1, 0) := by
 rw [show ((y.1 : Int) - 1).toNat = y.1 - 1 by omega] at h h3 h4 ⊢
 rw [← hy.2.2 h1, failL_at (by omega), if_neg (by rintro (a | a); exact a h3; exact h4 a), if_pos h]
theorem fl_b0 {p : Prob} {l : List StepD} {y : Nat × MixD} (hv : vpErr p = 0) (hy : FI p l y) (h1 : y.1 = 0) (h : (blameP p y.2).2.2 = 0) : failP p l = ((y.1 : Int) - 1, (blameP p y.2).1, (blameP p y.2).2.1, 0) := by
 have e := hy.2.1 h1
 rw [e] at h ⊢
 unfold failP
 rw [if_neg (by simpa using hv), if_pos h, h1]; rfl
theorem fl_nx {p : Prob} {l : List StepD} {y : Nat × MixD} (hy : FI p l y) (h1 : 1 ≤ y.1) (h2 : y.1 ≤ l.length) (h3 : (applyP p y.2 (l.getD ((y.1 : Int) - 1).toNat nilS)).2 = 0) (h4 : ¬ (l.getD ((y.1 : Int) - 1).toNat nilS).kind = 4) (h : ¬ (blameP p (applyP p y.2 (l.getD ((y.1 : Int) - 1).toNat nilS)).1).2.2 = 0) : FI p l (nxF p l y) := by
 refine ⟨by show y.1 + 1 ≤ _; omega, fun a => absurd a (Nat.succ_ne_zero _), fun _ => ?_⟩
 show failL p (if y.1 = 0 then y.2 else _) (l.drop (y.1 + 1 - 1)) (((y.1 + 1 : Nat) : Int) - 1) = _
 rw [if_neg (by omega)]
 rw [show ((y.1 : Int) - 1).toNat = y.1 - 1 by omega] at h h3 h4 ⊢
 rw [← hy.2.2 h1, failL_at (k := y.1 - 1) (by omega), if_neg (by rintro (a | a); exact a h3; exact h4 a), if_neg h]
 rw [show y.1 + 1 - 1 = y.1 - 1 + 1 by omega, show ((y.1 + 1 : Nat) : Int) - 1 = (y.1 : Int) - 1 + 1 by omega]
theorem fl_n0 {p : Prob} {l : List StepD} {y : Nat × MixD} (hv : vpErr p = 0) (hy : FI p l y) (h1 : y.1 = 0) (h : ¬ (blameP p y.2).2.2 = 0) : FI p l (nxF p l y) := by
 have e := hy.2.1 h1
 refine ⟨by show y.1 + 1 ≤ _; omega, fun a => absurd a (Nat.succ_ne_zero _), fun _ => ?_⟩
 show failL p (if y.1 = 0 then y.2 else _) (l.drop (y.1 + 1 - 1)) (((y.1 + 1 : Nat) : Int) - 1) = _
 rw [if_pos h1]
 rw [e] at h ⊢
 unfold failP
 rw [if_neg (by simpa using hv), if_neg h, h1]; rfl
theorem fl_end {p : Prob} {l : List StepD} {y : Nat × MixD} (hy : FI p l y) (h1 : l.length < y.1) : failP p l = if goalP p y.2 = true then (0, nilM, nilC, 15) else ((l.length : Int), nilM, nilC, 14) := by
 have e : y.1 = l.length + 1 := by have := hy.1; omega
 rw [← hy.2.2 (by omega), List.drop_eq_nil_of_le (by omega), e, show ((l.length + 1 : Nat) : Int) - 1 = (l.length : Int) by omega]
 rfl
theorem fail_fn (p : Prob) (l : List StepD) (h : vpErr p = 0) (hl : l.length ≤ 1000000) : FnSound Tryz.prog 92 [.val true (probC p), .val false [.d (.sl 3 (dSteps l))]] [] { vals := [(false, [.d (.v (.int .i64 (failP p l).1))]), (true, mixC (failP p l).2.1), (true, confC (failP p l).2.2.1), (false, [.d (.v (.int .i64 (failP p l).2.2.2))])] } := by
 refine startW (tm := [(0, _), (1, _)]) Tryz.func92 rfl Tryz.ntmps92 rfl rfl rfl rfl ?_
 repeat' (first
 |(with_reducible refine rgn 7 700 ?_ ?_); exact rfl
 |(with_reducible refine rgn 8 800 ?_ ?_); exact rfl
 |(with_reducible refine rgn 9 900 ?_ ?_); exact rfl
 |(with_reducible refine rgn 10 1000 ?_ ?_); exact rfl
 |(with_reducible refine rgn 11 1100 ?_ ?_); exact rfl
 |(with_reducible refine rgn 12 1200 ?_ ?_); exact rfl
 |(with_reducible refine rgn 13 1300 ?_ ?_); exact rfl
 |(with_reducible refine rgn 14 1400 ?_ ?_); exact rfl
 |(with_reducible refine rgn 6 1500 ?_ ?_); exact rfl
 |(with_reducible refine K_ca 50 ?_); refine zC (start_fn p h) ?_
 |(with_reducible refine K_ca 138 ?_); refine zC (apply_fn p y.2 (l.getD ((y.1 : Int) - 1).toNat nilS)) ?_
 |(with_reducible refine K_ca 139 ?_); (first
 |refine zC (blameA_fn p y.2) ?_
 |refine zC (blameA_fn p (applyP p y.2 (l.getD ((y.1 : Int) - 1).toNat nilS)).1) ?_)
 |(with_reducible refine K_ca 140 ?_); refine zC (goal_fn p y.2) ?_
 |(with_reducible refine blk_at (id := 0) ?_); ((with_reducible refine JL.loopW 0 599 (fun (y : Nat × MixD) tm => (10, .one false [.d (.v (.int .i64 (((y.1 : Int) - 1))))]) :: tm) (fun (y : Nat × MixD) bo => ((320, 200), some (.st 57 [.d (.sl 1 ((dInts y.2.base))), .d (.sl 1 ((dInts y.2.next))), .d (.sl 1 ((dSets y.2.held)))])) :: bo) (fun (y : Nat × MixD) => FI p l y) (fun (y : Nat × MixD) => l.length + 2 - y.1) ((0, startM p)) ?_ (fun y hy => have hy1 := hy.1; ?_) ?_); (focus (apply SubW [] rfl ?_ ?_ rfl ?_; (repeat' (first | exact kA | refine kB ?_ | refine kC ?_ ?_ | exact kD | fail)))))
 |((with_reducible refine round_next (i := y) (nxF p l y) ?_ ?_ ?_); (focus (apply SubW [] rfl ?_ ?_ rfl ?_; (repeat' (first | exact kA | refine kB ?_ | refine kC ?_ ?_ | exact kD | fail)))))
 |refine wA ?_
 |(refine wC ?_ ?_ <;> intro hc)
 |refine wB ?_ ?_
 |(with_reducible refine JL.block ?_)
 |(with_reducible refine F_at ?_); refine eW (vs := [(_, _), (_, _), (_, _), (_, _)]) Tryz.results92 ?_; (focus (repeat' (first | exact oA | refine oB ?_ | refine oC ?_ ?_ | fail)))
 |exact oM
 |fail)
 all_goals first
  | rfl
  | (rw [fl_err hy (by omega) (by omega) (.inl hc)] <;> rfl)
  | (rw [fl_err hy (by omega) (by omega) (.inr hc)] <;> rfl)
  | (rw [fl_bl hy (by omega) (by omega) (by assumption) (by assumption) hc] <;> rfl)
  | (rw [fl_b0 h hy (by omega) hc] <;> rfl)
  | exact fl_nx hy (by omega) (by omega) (by assumption) (by assumption) hc
  | exact fl_n0 h hy (by omega) hc
  | (unfold nxF; dsimp only; rw [if_neg (by omega)]; done)
  | (unfold nxF; dsimp only; rw [if_pos (by omega)]; done)
  | (unfold nxF; dsimp only; omega)
  | (rw [fl_end hy (by omega), if_pos (by grind)] <;> rfl)
  | (rw [fl_end hy (by omega), if_neg (by grind)] <;> rfl)
  | exact ⟨Nat.zero_le _, fun _ => rfl, fun a => absurd a (Nat.not_succ_le_zero 0)⟩
  | trace_state
end Go.Proofs.YtfnljcallbalgaaGreatDoor

namespace Go.Proofs.YtfnljcallbalgaaGreatDoor
open Go Go.RowKit
set_option maxRecDepth 100000
set_option maxHeartbeats 8000000
set_option linter.unusedSimpArgs false
set_option linter.unusedVariables false
theorem setting_fn (p : Prob) (rs : List Int) : FnSound Tryz.prog 48 [.val true (probC p), .val false [.d (.sl 1 (dInts rs))]] [] { vals := [(false, [.d (.v (.int .i64 (setErr p rs)))])] } := by
 refine startW (tm := [(0, _), (1, _)]) Tryz.func48 rfl Tryz.ntmps48 rfl rfl rfl rfl ?_
 repeat' (first
 |(with_reducible refine rgn 9 900 ?_ ?_); exact rfl
 |(with_reducible refine rgn 10 1000 ?_ ?_); exact rfl
 |(with_reducible refine rgn 8 1100 ?_ ?_); exact rfl
 |(with_reducible refine K_ca 51 ?_); refine zC (rvp_fn p) ?_
 |(with_reducible refine blk_at (id := 0) ?_); ((with_reducible refine JL.loopW 0 799 (fun (k : Nat) tm => (6, .one false [.d (.v (.int .i64 ((k : Int))))]) :: tm) (fun (k : Nat) bo => bo) (fun (k : Nat) => k ≤ rs.length ∧ ∀ j, j < k → 1 ≤ rs.getD j 0 ∧ rs.getD j 0 ≤ 4) (fun (k : Nat) => rs.length - k) (0) ?_ (fun k hk => have hvp := vp_all (p := p) (by assumption); ?_) ?_); (focus (apply SubW [] rfl ?_ ?_ rfl ?_; (repeat' (first | exact kA | refine kB ?_ | refine kC ?_ ?_ | exact kD | fail)))))
 |((with_reducible refine round_next (i := k) (k + 1) ?_ ?_ ?_); (focus (apply SubW [] rfl ?_ ?_ rfl ?_; (repeat' (first | exact kA | refine kB ?_ | refine kC ?_ ?_ | exact kD | fail)))))
 |refine wA ?_
 |(refine wC ?_ ?_ <;> intro hc)
 |refine wB ?_ ?_
 |(with_reducible refine JL.block ?_)
 |(with_reducible refine F_at ?_); refine eW (vs := [(_, _)]) Tryz.results48 ?_; (focus (repeat' (first | exact oA | refine oB ?_ | refine oC ?_ ?_ | fail)))
 |exact oM
 |fail)
 all_goals first
  | exact (setErr_vp hc).symm
  | exact (setErr_ar (by assumption) (by omega)).symm
  | exact (setErr_rg (k := k) (by assumption) (by omega) (by omega) (by omega)).symm
  | exact (setErr_yes (k := k) (by assumption) (by omega) (by omega) hk.2).symm
  | (refine ⟨by omega, fun j hj => ?_⟩; by_cases e : j = k; (subst e; omega); exact hk.2 j (by omega))
  | (refine ⟨Nat.zero_le _, fun j hj => absurd hj (Nat.not_lt_zero j)⟩)
theorem settingOK_fn {p : Prob} {rs : List Int} (h : setErr p rs = 0) : FnSound Tryz.prog 48 [.val true (probC p), .val false [.d (.sl 1 (dInts rs))]] [] { vals := [(false, [.d (.v (.int .i64 0))])] } := by rw [← h]; exact setting_fn p rs
theorem check_fn (p : Prob) (l : List StepD) (h : vpErr p = 0) (hl : l.length ≤ 1000000) : FnSound Tryz.prog 49 [.val true (probC p), .val false [.d (.sl 3 (dSteps l))]] [] { vals := [(false, [.d (.v (.bool (checkP p l)))])] } := by
 refine startW (tm := [(0, _), (1, _)]) Tryz.func49 rfl Tryz.ntmps49 rfl rfl rfl rfl ?_
 repeat' (first
 |(with_reducible refine K_ca 92 ?_); refine zC (fail_fn p l h hl) ?_
 |refine wA ?_
 |(refine wC ?_ ?_ <;> intro hc)
 |refine wB ?_ ?_
 |(with_reducible refine JL.block ?_)
 |(with_reducible refine F_at ?_); refine eW (vs := [(_, _)]) Tryz.results49 ?_; (focus (repeat' (first | exact oA | refine oB ?_ | refine oC ?_ ?_ | fail)))
 |exact oM
 |fail)
 all_goals rfl
theorem new_fn (p : Prob) (rs : List Int) (l : List StepD) (hs : setErr p rs = 0) (hc : checkP p l = true) (hl : l.length ≤ 1000000) : FnSound Tryz.prog 16 [.val true (probC p), .val false [.d (.sl 1 (dInts rs))], .val false [.d (.sl 3 (dSteps l))]] [] { vals := [(true, ctlC (newP p rs l).1), (false, [.d (.v (.int .i64 0))])] } := by
 have hv := (setErr_ok hs).1
 have hk := check_fn p l hv hl
 rw [hc] at hk
 have e : (newP p rs l).1 = ⟨l, 0, if l.length = 0 then 6 else 0, 0, 0, 0, startM p⟩ := by unfold newP; rw [if_neg (by simpa using hs), hc, if_neg (by decide)]
 rw [e]
 refine startW (tm := [(0, _), (1, _), (2, _)]) Tryz.func16 rfl Tryz.ntmps16 rfl rfl rfl rfl ?_
 repeat' (first
 |(with_reducible refine K_ca 48 ?_); refine zC (settingOK_fn hs) ?_
 |(with_reducible refine K_ca 49 ?_); refine zC (hk) ?_
 |(with_reducible refine K_ca 50 ?_); refine zC (start_fn p hv) ?_
 |refine wA ?_
 |(refine wC ?_ ?_ <;> intro hc)
 |refine wB ?_ ?_
 |(with_reducible refine JL.block ?_)
 |(with_reducible refine F_at ?_); refine eW (vs := [(_, _), (_, _)]) Tryz.results16 ?_; (focus (repeat' (first | exact oA | refine oB ?_ | refine oC ?_ ?_ | fail)))
 |exact oM
 |fail)
 all_goals first | rfl | (rw [if_pos (by omega)] <;> rfl) | (rw [if_neg (by omega)] <;> rfl) | trace_state
end Go.Proofs.YtfnljcallbalgaaGreatDoor

namespace Go.Proofs.YtfnljcallbalgaaGreatDoor
open Go Go.RowKit
set_option maxRecDepth 100000
set_option maxHeartbeats 8000000
set_option linter.unusedSimpArgs false
set_option linter.unusedVariables false
theorem pnew_fn (p : Prob) (rs : List Int) (l : List StepD) (hs : setErr p rs = 0) (hc : checkP p l = true) (hl : l.length ≤ 1000000) : FnSound Tryz.prog 52 [.val true (probC p), .val false [.d (.sl 1 (dInts rs))], .val false [.d (.sl 3 (dSteps l))]] [] { vals := [(true, ctlC (newP p rs l).1), (false, [.d (.v (.int .i64 0))])] } := by
 have hso := setErr_ok hs
 have hv := hso.1
 have hvp := vp_all hv
 have hk := pcheck_fn p l hv hl
 rw [hc] at hk
 have hst := psetting_fn p rs (by omega)
 rw [hs] at hst
 have e : (newP p rs l).1 = ⟨l, 0, if l.length = 0 then 6 else 0, 0, 0, 0, startM p⟩ := by unfold newP; rw [if_neg (by simpa using hs), hc, if_neg (by decide)]
 rw [e]
 refine startW (tm := [(0, _), (1, _), (2, _)]) Tryz.func52 rfl Tryz.ntmps52 rfl rfl rfl rfl ?_
 repeat' (first
 |(with_reducible refine K_ca 95 ?_); refine zC (hst) ?_
 |(with_reducible refine K_ca 96 ?_); refine zC (hk) ?_
 |(with_reducible refine K_ca 97 ?_); refine zC (pstart_fn p hv) ?_
 |(with_reducible refine K_ca 55 ?_); refine zS (cloneSteps_fn l hl) ?_
 |refine wA ?_
 |(refine wC ?_ ?_ <;> intro hc)
 |refine wB ?_ ?_
 |(with_reducible refine JL.block ?_)
 |(with_reducible refine F_at ?_); refine eW (vs := [(_, _), (_, _)]) Tryz.results52 ?_; (focus (repeat' (first | exact oA | refine oB ?_ | refine oC ?_ ?_ | fail)))
 |exact oM
 |fail)
 all_goals first | rfl | (rw [if_pos (by omega)] <;> rfl) | (rw [if_neg (by omega)] <;> rfl) | trace_state
theorem newP_bad {p : Prob} {rs : List Int} {l : List StepD} (h : ¬ setErr p rs = 0) : newP p rs l = (nilCtl, setErr p rs) := by unfold newP; rw [if_pos h]
theorem newP_un {p : Prob} {rs : List Int} {l : List StepD} (h : setErr p rs = 0) (hc : checkP p l = false) : newP p rs l = (nilCtl, 13) := by unfold newP; rw [if_neg (by simpa using h), if_pos hc]
theorem pnewA_fn (p : Prob) (rs : List Int) (l : List StepD) (hr : rs.length ≤ 1000000) (hl : l.length ≤ 1000000) : FnSound Tryz.prog 52 [.val true (probC p), .val false [.d (.sl 1 (dInts rs))], .val false [.d (.sl 3 (dSteps l))]] [] { vals := [(true, ctlC (newP p rs l).1), (false, [.d (.v (.int .i64 (newP p rs l).2))])] } := by
 by_cases hs : setErr p rs = 0
 ·cases hc : checkP p l with
  | true =>
   have := pnew_fn p rs l hs hc hl
   rw [(newP_k hs hc).2.2.2]
   exact this
  | false =>
   have hv := (setErr_ok hs).1
   have hst := psetting_fn p rs hr
   rw [hs] at hst
   have hk := pcheck_fn p l hv hl
   rw [hc] at hk
   rw [newP_un hs hc]
   refine startW (tm := [(0, _), (1, _), (2, _)]) Tryz.func52 rfl Tryz.ntmps52 rfl rfl rfl rfl ?_
   repeat' (first
 |(with_reducible refine K_ca 95 ?_); refine zC (hst) ?_
 |(with_reducible refine K_ca 96 ?_); refine zC (hk) ?_
 |refine wA ?_
 |(refine wC ?_ ?_ <;> intro hc)
 |refine wB ?_ ?_
 |(with_reducible refine JL.block ?_)
 |(with_reducible refine F_at ?_); refine eW (vs := [(_, _), (_, _)]) Tryz.results52 ?_; (focus (repeat' (first | exact oA | refine oB ?_ | refine oC ?_ ?_ | fail)))
 |exact oM
 |fail)
   all_goals first | rfl | trace_state
 ·have hst := psetting_fn p rs hr
  rw [newP_bad hs]
  refine startW (tm := [(0, _), (1, _), (2, _)]) Tryz.func52 rfl Tryz.ntmps52 rfl rfl rfl rfl ?_
  repeat' (first
 |(with_reducible refine K_ca 95 ?_); refine zC (hst) ?_
 |refine wA ?_
 |(refine wC ?_ ?_ <;> intro hc)
 |refine wB ?_ ?_
 |(with_reducible refine JL.block ?_)
 |(with_reducible refine F_at ?_); refine eW (vs := [(_, _), (_, _)]) Tryz.results52 ?_; (focus (repeat' (first | exact oA | refine oB ?_ | refine oC ?_ ?_ | fail)))
 |exact oM
 |fail)
  all_goals first | rfl | (exfalso; omega) | trace_state
theorem newA_fn (p : Prob) (rs : List Int) (l : List StepD) (hl : l.length ≤ 1000000) : FnSound Tryz.prog 16 [.val true (probC p), .val false [.d (.sl 1 (dInts rs))], .val false [.d (.sl 3 (dSteps l))]] [] { vals := [(true, ctlC (newP p rs l).1), (false, [.d (.v (.int .i64 (newP p rs l).2))])] } := by
 by_cases hs : setErr p rs = 0
 ·cases hc : checkP p l with
  | true =>
   have := new_fn p rs l hs hc hl
   rw [(newP_k hs hc).2.2.2]
   exact this
  | false =>
   have hv := (setErr_ok hs).1
   have hk := check_fn p l hv hl
   rw [hc] at hk
   rw [newP_un hs hc]
   refine startW (tm := [(0, _), (1, _), (2, _)]) Tryz.func16 rfl Tryz.ntmps16 rfl rfl rfl rfl ?_
   repeat' (first
 |(with_reducible refine K_ca 48 ?_); refine zC (settingOK_fn hs) ?_
 |(with_reducible refine K_ca 49 ?_); refine zC (hk) ?_
 |refine wA ?_
 |(refine wC ?_ ?_ <;> intro hc)
 |refine wB ?_ ?_
 |(with_reducible refine JL.block ?_)
 |(with_reducible refine F_at ?_); refine eW (vs := [(_, _), (_, _)]) Tryz.results16 ?_; (focus (repeat' (first | exact oA | refine oB ?_ | refine oC ?_ ?_ | fail)))
 |exact oM
 |fail)
   all_goals first | rfl | trace_state
 ·have hst := setting_fn p rs
  rw [newP_bad hs]
  refine startW (tm := [(0, _), (1, _), (2, _)]) Tryz.func16 rfl Tryz.ntmps16 rfl rfl rfl rfl ?_
  repeat' (first
 |(with_reducible refine K_ca 48 ?_); refine zC (hst) ?_
 |refine wA ?_
 |(refine wC ?_ ?_ <;> intro hc)
 |refine wB ?_ ?_
 |(with_reducible refine JL.block ?_)
 |(with_reducible refine F_at ?_); refine eW (vs := [(_, _), (_, _)]) Tryz.results16 ?_; (focus (repeat' (first | exact oA | refine oB ?_ | refine oC ?_ ?_ | fail)))
 |exact oM
 |fail)
  all_goals first | rfl | (exfalso; omega) | trace_state
end Go.Proofs.YtfnljcallbalgaaGreatDoor

namespace Go.Proofs.YtfnljcallbalgaaGreatDoor
open Go Go.RowKit
set_option maxRecDepth 100000
set_option maxHeartbeats 8000000
set_option linter.unusedSimpArgs false
set_option linter.unusedVariables false
def repsOf (p : Prob) (i : Nat) (n : Nat) : List RepD := List.replicate n ⟨(i : Int), p.now.getD i 0, true, 0⟩
def repsL (p : Prob) (rs : List Int) : Nat → List RepD
 | 0 => []
 | k + 1 => repsL p rs k ++ repsOf p k (rs.getD k 0).toNat
theorem repsOf_y {p : Prob} {i n : Nat} : repsOf p i (n + 1) = repsOf p i n ++ [⟨(i : Int), p.now.getD i 0, true, 0⟩] := by unfold repsOf; rw [List.replicate_succ']
theorem repsL_len {p : Prob} {rs : List Int} {k : Nat} (h : ∀ i, i < k → 1 ≤ rs.getD i 0 ∧ rs.getD i 0 ≤ 4) : (repsL p rs k).length ≤ 4 * k := by
 induction k with
 | zero => simp [repsL]
 | succ k ih =>
  have h1 := h k (by omega)
  have h2 := ih (fun i hi => h i (by omega))
  simp only [repsL, repsOf, List.length_append, List.length_replicate]
  omega
theorem pstart_rep (p : Prob) (rs : List Int) (hs : setErr p rs = 0) : FnSound Tryz.prog 53 [.val true (probC p), .val false [.d (.sl 1 (dInts rs))]] [] { vals := [(false, [.d (.sl 4 (dReps (repsL p rs rs.length)))]), (false, [.d (.v (.int .i64 0))])] } := by
 obtain ⟨hv, hr1, hr2⟩ := setErr_ok hs
 have hvp := vp_all hv
 refine startW (tm := [(0, _), (1, _)]) Tryz.func53 rfl Tryz.ntmps53 rfl rfl rfl rfl ?_
 repeat' (first
 |(with_reducible refine K_ca 63 ?_); refine zC (pvpOK_fn hv) ?_
 |(with_reducible refine blk_at (id := 0) ?_); (try (refine JL.zeroW 7 _ 138 4 rfl rfl ?_)); (refine JL.rekW 7 (1112, 851) rfl rfl rfl rfl ?_); ((with_reducible refine JL.loopW 0 899 (fun (k : Nat) tm => (23, .one false [.d (.v (.int .i64 ((k : Int))))]) :: (7, .one false [.own (1112, 851)]) :: tm) (fun (k : Nat) bo => ((1112, 851), some (.sl 138 4 ((dReps (repsL p rs k))))) :: bo) (fun (k : Nat) => k ≤ rs.length) (fun (k : Nat) => rs.length - k) (0) ?_ (fun k hk => have hrk := hr2 k; have hnk := hvp.2.2.2.2 k; have hll := repsL_len (p := p) (rs := rs) (k := k) (fun i hi => hr2 i (by omega)); ?_) ?_); (focus (apply SubW [((1112, 851), _)] rfl ?_ ?_ rfl ?_; (repeat' (first | exact kA | refine kB ?_ | refine kC ?_ ?_ | exact kD | fail)))))
 |((with_reducible refine round_next (i := k) (k + 1) ?_ ?_ ?_); (focus (apply SubW [((1112, 851), _)] rfl ?_ ?_ rfl ?_; (repeat' (first | exact kA | refine kB ?_ | refine kC ?_ ?_ | exact kD | fail)))))
 |(with_reducible refine blk_at (id := 2) ?_); (try (refine JL.zeroW 7 _ 138 4 rfl rfl ?_)); (refine JL.rekW 7 (1112, 1351) rfl rfl rfl rfl ?_); ((with_reducible refine JL.loopW 2 1399 (fun (j : Nat) tm => (35, .one false [.d (.v (.int .i64 ((j : Int))))]) :: (7, .one false [.own (1112, 1351)]) :: tm) (fun (j : Nat) bo => ((1112, 1351), some (.sl 138 4 ((dReps (repsL p rs k ++ repsOf p k j))))) :: bo) (fun (j : Nat) => j ≤ (rs.getD k 0).toNat) (fun (j : Nat) => (rs.getD k 0).toNat - j) (0) ?_ (fun j hj => have hol : (repsOf p k j).length = j := (by simp [repsOf]); ?_) ?_); (focus (apply SubW [((1112, 1351), _)] rfl ?_ ?_ rfl ?_; (repeat' (first | exact kA | refine kB ?_ | refine kC ?_ ?_ | exact kD | fail)))))
 |((with_reducible refine round_next (i := j) (j + 1) ?_ ?_ ?_); (focus (apply SubW [((1112, 1351), _)] rfl ?_ ?_ rfl ?_; (repeat' (first | exact kA | refine kB ?_ | refine kC ?_ ?_ | exact kD | fail)))))
 |refine wA ?_
 |(refine wC ?_ ?_ <;> intro hc)
 |refine wB ?_ ?_
 |(with_reducible refine JL.block ?_)
 |(with_reducible refine F_at ?_); refine eW (vs := [(_, _), (_, _)]) Tryz.results53 ?_; (focus (repeat' (first | exact oA | refine oB ?_ | refine oC ?_ ?_ | fail)))
 |exact oM
 |fail)
 all_goals first
  | rfl
  | (exfalso; omega)
  | (rw [show repsOf p k 0 = [] from rfl, List.append_nil])
  | (rw [repsOf_y, List.append_assoc])
  | (rw [show j = (rs.getD k 0).toNat from by omega]; rfl)
  | (rw [show k = rs.length from by omega])
  | trace_state
theorem rstart_rep (p : Prob) (rs : List Int) (hs : setErr p rs = 0) : FnSound Tryz.prog 17 [.val true (probC p), .val false [.d (.sl 1 (dInts rs))]] [] { vals := [(false, [.d (.sl 4 (dReps (repsL p rs rs.length)))]), (false, [.d (.v (.int .i64 0))])] } := by
 obtain ⟨hv, hr1, hr2⟩ := setErr_ok hs
 have hvp := vp_all hv
 refine startW (tm := [(0, _), (1, _)]) Tryz.func17 rfl Tryz.ntmps17 rfl rfl rfl rfl ?_
 repeat' (first
 |(with_reducible refine rgn 9 900 ?_ ?_); exact rfl
 |(with_reducible refine rgn 10 1000 ?_ ?_); exact rfl
 |(with_reducible refine rgn 8 1100 ?_ ?_); exact rfl
 |(with_reducible refine rgn 15 1500 ?_ ?_); exact rfl
 |(with_reducible refine rgn 16 1600 ?_ ?_); exact rfl
 |(with_reducible refine rgn 18 1700 ?_ ?_); exact rfl
 |(with_reducible refine rgn 14 1900 ?_ ?_); exact rfl
 |(with_reducible refine K_ca 51 ?_); refine zC (rvpOK_fn hv) ?_
 |(with_reducible refine blk_at (id := 0) ?_); ((with_reducible refine JL.loopW 0 799 (fun (i : Nat) tm => (7, .one false [.d (.v (.int .i64 ((i : Int))))]) :: tm) (fun (i : Nat) bo => bo) (fun (i : Nat) => i ≤ rs.length) (fun (i : Nat) => rs.length - i) (0) ?_ (fun i hi => have hrk := hr2 i; ?_) ?_); (focus (apply SubW [] rfl ?_ ?_ rfl ?_; (repeat' (first | exact kA | refine kB ?_ | refine kC ?_ ?_ | exact kD | fail)))))
 |((with_reducible refine round_next (i := i) (i + 1) ?_ ?_ ?_); (focus (apply SubW [] rfl ?_ ?_ rfl ?_; (repeat' (first | exact kA | refine kB ?_ | refine kC ?_ ?_ | exact kD | fail)))))
 |(with_reducible refine blk_at (id := 2) ?_); (try (refine JL.zeroW 8 _ 138 4 rfl rfl ?_)); (refine JL.rekW 8 (1128, 1351) rfl rfl rfl rfl ?_); ((with_reducible refine JL.loopW 2 1399 (fun (k : Nat) tm => (9, .one false [.d (.v (.int .i64 ((k : Int))))]) :: (8, .one false [.own (1128, 1351)]) :: tm) (fun (k : Nat) bo => ((1128, 1351), some (.sl 138 4 ((dReps (repsL p rs k))))) :: bo) (fun (k : Nat) => k ≤ rs.length) (fun (k : Nat) => rs.length - k) (0) ?_ (fun k hk => have hrk := hr2 k; have hnk := hvp.2.2.2.2 k; have hll := repsL_len (p := p) (rs := rs) (k := k) (fun i hi => hr2 i (by omega)); ?_) ?_); (focus (apply SubW [((1128, 1351), _)] rfl ?_ ?_ rfl ?_; (repeat' (first | exact kA | refine kB ?_ | refine kC ?_ ?_ | exact kD | fail)))))
 |((with_reducible refine round_next (i := k) (k + 1) ?_ ?_ ?_); (focus (apply SubW [((1128, 1351), _)] rfl ?_ ?_ rfl ?_; (repeat' (first | exact kA | refine kB ?_ | refine kC ?_ ?_ | exact kD | fail)))))
 |(with_reducible refine blk_at (id := 4) ?_); (try (refine JL.zeroW 8 _ 138 4 rfl rfl ?_)); (refine JL.rekW 8 (1128, 1551) rfl rfl rfl rfl ?_); ((with_reducible refine JL.loopW 4 1599 (fun (j : Nat) tm => (10, .one false [.d (.v (.int .i64 ((j : Int))))]) :: (8, .one false [.own (1128, 1551)]) :: tm) (fun (j : Nat) bo => ((1128, 1551), some (.sl 138 4 ((dReps (repsL p rs k ++ repsOf p k j))))) :: bo) (fun (j : Nat) => j ≤ (rs.getD k 0).toNat) (fun (j : Nat) => (rs.getD k 0).toNat - j) (0) ?_ (fun j hj => have hol : (repsOf p k j).length = j := (by simp [repsOf]); ?_) ?_); (focus (apply SubW [((1128, 1551), _)] rfl ?_ ?_ rfl ?_; (repeat' (first | exact kA | refine kB ?_ | refine kC ?_ ?_ | exact kD | fail)))))
 |((with_reducible refine round_next (i := j) (j + 1) ?_ ?_ ?_); (focus (apply SubW [((1128, 1551), _)] rfl ?_ ?_ rfl ?_; (repeat' (first | exact kA | refine kB ?_ | refine kC ?_ ?_ | exact kD | fail)))))
 |refine wA ?_
 |(refine wC ?_ ?_ <;> intro hc)
 |refine wB ?_ ?_
 |(with_reducible refine JL.block ?_)
 |(with_reducible refine F_at ?_); refine eW (vs := [(_, _), (_, _)]) Tryz.results17 ?_; (focus (repeat' (first | exact oA | refine oB ?_ | refine oC ?_ ?_ | fail)))
 |exact oM
 |fail)
 all_goals first
  | rfl
  | (exfalso; omega)
  | (rw [show repsOf p k 0 = [] from rfl, List.append_nil])
  | (rw [repsOf_y, List.append_assoc])
  | (rw [show j = (rs.getD k 0).toNat from by omega]; rfl)
  | (rw [show k = rs.length from by omega])
  | trace_state
end Go.Proofs.YtfnljcallbalgaaGreatDoor

namespace Go.Proofs.YtfnljcallbalgaaGreatDoor
open Go Go.RowKit
set_option linter.unusedSimpArgs false
set_option linter.unusedVariables false
set_option maxHeartbeats 2000000
set_option maxRecDepth 100000
theorem mul64_14 (n : Int) (w : World) (h0 : 0 ≤ n) (h1 : n ≤ 14) : Calls Tryz.prog 147 #[.int .u64 1, .int .u64 n] w fun e w' => e = .returned (.tuple #[.int .u64 0, .int .u64 n]) ∧ Below w.heap.size w w' := by
 rcases (by omega : n = 0 ∨ n = 1 ∨ n = 2 ∨ n = 3 ∨ n = 4 ∨ n = 5 ∨ n = 6 ∨ n = 7 ∨ n = 8 ∨ n = 9 ∨ n = 10 ∨ n = 11 ∨ n = 12 ∨ n = 13 ∨ n = 14) with h | h | h | h | h | h | h | h | h | h | h | h | h | h | h <;> subst h
 all_goals go_enter Tryz.func147, Tryz.ntmps147
 all_goals go_wp2
 all_goals go_ret2
 all_goals exact ⟨rfl, ext_refl _⟩
theorem mul_14 (n : Int) (w : World) (h0 : 0 ≤ n) (h1 : n ≤ 14) : Calls Tryz.prog 98 #[.int .u64 1, .int .u64 n] w fun e w' => e = .returned (.tuple #[.int .u64 0, .int .u64 n]) ∧ Below w.heap.size w w' := by
 go_enter Tryz.func98, Tryz.ntmps98
 go_wp2_with fail
 refine (mul64_14 n _ h0 h1).mono ?_
 rintro e w1 ⟨rfl, hb1⟩
 go_wp2_with fail
 go_ret2
 exact ⟨rfl, hb1⟩
theorem run_copy_rows {P : Program} (w : World) (dT sT ty elem : TypeId) (g o dLen dCap : Nat) (a : Addr) (sLen sCap sz : Nat) (cur : Array Value) (t : TypeId) (cs : List Value)
    (hu : P.underlying dT = some (.slice elem)) (hs : (P.info? elem).map (·.size) = some sz)
    (hg : w.heap[g]? = some (.cells cur t (0, 0))) (n : Nat) (hnm : n = Nat.min sLen dLen) (hn : cs.length = n * sz)
    (hsrc : ∀ j v, cs[j]? = some v → w.cell? (a.add j) = some v) (hfit : o + cs.length ≤ cur.size) (h1 : ∀ v ∈ cs, v.oneCell' = true) :
    (Builtin.copy_ #[dT, sT] ty #[.slice (some ⟨g, o, none⟩) dLen dCap, .slice (some a) sLen sCap]).run P w =
     .ok (goInt n) (w.setRow g (cur.toList.take o ++ cs ++ cur.toList.drop (o + cs.length)).toArray) := by
 have hl := run_loadCells_list (P := P) w a cs hsrc
 have hst := run_storeCells_at P g o t cs 0 cur w hg (by simpa using hfit) h1
 cases hq : P.info? elem with
 | none => simp [hq] at hs
 | some i =>
  have hi : i.size = sz := by simpa [hq] using hs
  rw [hn] at hl hst
  subst hnm
  simp [Builtin.copy_, run_underlying hu, Builtin.lenOf, Builtin.firstCells, sizeOf, typeInfo, hq, hi, hl, hst]
  try (rw [hn])
def splZ : List Value := [.slice none 0 0, .int .i64 0, .int .i64 0]
theorem infoSplR : (Tryz.prog.info? 76).map (fun i => (i.zero, i.size, i.bytes)) = some (some (.agg #[.slice none 0 0, .int .i64 0, .int .i64 0]), 3, 40) := by kernel_rfl
theorem run_make_spl (n : Nat) (hn : n ≤ 14) (w : World) : (Instr.makeSlice 70 (.int .i64 (n : Int)) (.int .i64 (n : Int))).run Tryz.prog w = .ok (.slice (some ⟨w.heap.size, 0, none⟩) n n) (w.alloc (.cells (List.replicate n splZ).flatten.toArray 76)) := by
 obtain ⟨i, hi, hz0, hz1, hz2⟩ := info_parts infoSplR
 have hw := wrap_nat (n := (n : Int)) (by omega) (by omega)
 have hz3 := congrArg List.toArray (zeros_flat (Value.agg #[.slice none 0 0, .int .i64 0, .int .i64 0]).cells n (by decide))
 rw [Array.toArray_toList] at hz3
 have hz4 : (Value.agg #[.slice none 0 0, .int .i64 0, .int .i64 0]).cells.toList = splZ := rfl
 rw [hz4] at hz3
 have hb0 : ¬ ((n : Int) < 0) := by omega
 have hb2 : ¬ ((281474976710656 : Int) < 40 * (n : Int)) := by omega
 have ask : ∀ b, (askRoom b).run Tryz.prog w = .ok () w := fun b => by unfold askRoom; split <;> simp [mark, Sem.run]
 by_cases h0 : n = 0
 ·subst h0
  have e5 : ∀ f : Nat → Value, Array.map f (Array.range 0) = #[] := fun f => by apply Array.ext <;> simp
  have hw0 : IntKind.i64.wrap 0 = 0 := by decide
  simp [Instr.makeSlice, run_underlying Tryz.underlying70, asInt, asIntOf, typeInfo, sizeOf, hi, hz0, hz1, hz2, hw0, ask, newRow, zeroValue]
  try simp only [e5]
 ·have h3 : ¬ n * 3 = 0 := by omega
  simp [Instr.makeSlice, run_underlying Tryz.underlying70, asInt, asIntOf, typeInfo, sizeOf, hi, hz0, hz1, hz2, hw, hb0, hb2, ask, newRow, zeroValue, h0, h3]
  exact congrArg (fun x => w.alloc (Obj.cells x 76)) hz3
def repV (us : List Value) (n j : Nat) : List Value := (List.replicate j us).flatten ++ (List.replicate (n - j) splZ).flatten
theorem repV_len {us : List Value} (hu : us.length = 3) {n j : Nat} (h : j ≤ n) : (repV us n j).length = n * 3 := by
 unfold repV
 rw [List.length_append, repl_len, repl_len, hu]
 show j * 3 + (n - j) * 3 = n * 3
 omega
theorem rep_app {α : Type} (l : List α) (a b : Nat) : (List.replicate a l).flatten ++ (List.replicate b l).flatten = (List.replicate (a + b) l).flatten := by rw [← List.flatten_append, List.replicate_append_replicate]
theorem drop_rep {α : Type} (l : List α) (a b : Nat) (h : a ≤ b) : ((List.replicate b l).flatten).drop (a * l.length) = (List.replicate (b - a) l).flatten := by
 have := rep_app l a (b - a)
 rw [show a + (b - a) = b by omega] at this
 rw [← this, List.drop_append_of_le_length (by rw [repl_len]; exact Nat.le_refl _), List.drop_eq_nil_of_le (by rw [repl_len]; exact Nat.le_refl _), List.nil_append]
theorem repV_copy {us : List Value} (hu : us.length = 3) {n j k : Nat} (h : j + k ≤ n) : (repV us n j).take (j * 3) ++ (List.replicate k us).flatten ++ (repV us n j).drop (j * 3 + ((List.replicate k us).flatten).length) = repV us n (j + k) := by
 have hl : ((List.replicate j us).flatten).length = j * 3 := by rw [repl_len, hu]
 unfold repV
 rw [List.take_append_of_le_length (by omega), List.take_of_length_le (by omega), rep_app, repl_len, hu, ← hl, List.drop_append, List.drop_eq_nil_of_le (by omega), List.nil_append, Nat.add_sub_cancel_left]
 have := drop_rep splZ k (n - j) (by omega)
 rw [show splZ.length = 3 from rfl] at this
 rw [this, show n - j - k = n - (j + k) by omega]
theorem repeat_spl (A : Option Addr) (c n : Nat) (w : World) (us : List Value) (hA : Cells w A us) (hu : us.length = 3) (hu1 : ∀ u ∈ us, u.oneCell' = true) (hn : n ≤ 14) :
    Calls Tryz.prog 56 #[.slice A 1 c, .int .i64 n] w (NewSl w 76 3 n (List.replicate n us).flatten) := by
 obtain ⟨b0, o0, rfl, hb0, _⟩ := hA 0 (by omega)
 have hcell : ∀ j v, us[j]? = some v → w.cell? ⟨b0, o0 + j, none⟩ = some v := fun j v hj => by
  obtain ⟨hj', rfl⟩ := List.getElem?_eq_some_iff.1 hj
  obtain ⟨b1, o1, e, _, h3⟩ := hA j hj'
  cases e
  exact h3
 have hmk := run_make_spl n hn
 have hsz : (Tryz.prog.info? 76).map (·.size) = some 3 := by kernel_rfl
 have d1 : decide ((9223372036854775807 : Int) < (n : Int)) = false := by simp; omega
 have ones : ∀ k, ∀ v ∈ (List.replicate k us).flatten, v.oneCell' = true := fun k v hv => by
  obtain ⟨l, hl, hv⟩ := List.mem_flatten.1 hv
  rw [List.eq_of_mem_replicate hl] at hv
  exact hu1 v hv
 clear hA
 go_enter Tryz.func56, Tryz.ntmps56
 go_wp2_with fail
 refine (mul_14 n _ (by omega) (by omega)).mono ?_
 rintro e w1 ⟨rfl, hb1⟩
 have zb : b0 < w1.heap.size := Nat.lt_of_lt_of_le hb0 hb1.size
 have q1 : ∀ j v, us[j]? = some v → w1.cell? ⟨b0, o0 + j, none⟩ = some v := fun j v hj => ext_cell hb1 hb0 (hcell j v hj)
 clear hcell
 go_upto_region 7 with (fail)
 have B2 : Blk (w1.alloc (.cells (List.replicate n splZ).flatten.toArray 76)) w1.heap.size 76 (repV us n 0).toArray := by
  rw [show repV us n 0 = (List.replicate n splZ).flatten from by simp [repV]]
  exact Blk.new _ _ _
 have X2 := hid (ext_alloc hb1 (.cells (List.replicate n splZ).flatten.toArray 76))
 have q2 : ∀ j v, us[j]? = some v → (w1.alloc (.cells (List.replicate n splZ).flatten.toArray 76)).cell? ⟨b0, o0 + j, none⟩ = some v := fun j v hj => ext_cell (ext_alloc (ext_refl w1) _) zb (q1 j v hj)
 have z1 := hb1.size
 have Z2 : (w1.alloc (.cells (List.replicate n splZ).flatten.toArray 76)).heap.size = w1.heap.size + 1 := by simp
 clear q1
 generalize (w1.alloc (.cells (List.replicate n splZ).flatten.toArray 76)) = w2 at B2 X2 q2 Z2 ⊢
 obtain ⟨j0, hj0⟩ : ∃ j0 : Nat, j0 = Nat.min 1 n := ⟨_, rfl⟩
 have hj1 : j0 ≤ 1 ∧ j0 ≤ n ∧ (0 < n → j0 = 1) := by rw [hj0]; simp only [Nat.min_def]; split <;> omega
 have hcp : ∀ ty, (Builtin.copy_ #[70, 70] ty #[.slice (some ⟨w1.heap.size, 0, none⟩) n n, .slice (some ⟨b0, o0, none⟩) 1 c]).run Tryz.prog w2 = .ok (goInt j0) (w2.setRow w1.heap.size (repV us n j0).toArray) := by
  intro ty
  have := run_copy_rows (P := Tryz.prog) w2 70 70 ty 76 w1.heap.size 0 n n ⟨b0, o0, none⟩ 1 c 3 (repV us n 0).toArray 76 ((List.replicate j0 us).flatten) Tryz.underlying70 hsz B2 j0 hj0 (by rw [repl_len, hu]) (fun j v hv => by
   rw [Addr.add_lit]
   refine q2 j v ?_
   have : j0 = 1 ∨ j0 = 0 := by omega
   rcases this with h | h <;> rw [h] at hv
   ·simpa using hv
   ·simp at hv) (by rw [repl_len, hu, List.size_toArray, repV_len hu (by omega)]; omega) (ones j0)
  rw [this]
  have hc := repV_copy hu (n := n) (j := 0) (k := j0) (by omega)
  simp only [Nat.zero_mul] at hc
  rw [List.toList_toArray, hc, Nat.zero_add]
 clear hj0
 have B3 := blk_row B2 (repV us n j0).toArray
 have X3 := hid (X2.out.trans (row_below (B := w.heap.size) w2 (show w.heap.size ≤ w1.heap.size from z1) (repV us n j0).toArray))
 go_wp2_with (refine wpList_cp rfl (.tmp 31) (.tmp 32) 70 70 rfl (.slice (some ⟨w1.heap.size, 0, none⟩) n n) (.slice (some ⟨b0, o0, none⟩) 1 c) (goInt j0) (by rfl) (by rfl) (hcp _) ?_)
 clear hcp
 go_loopw [8] (fun iv wr => ∃ j : Nat, j ≤ n ∧ (0 < n → 1 ≤ j) ∧ iv = .int .i64 j ∧ Hid (Blk wr w1.heap.size 76 (repV us n j).toArray) ∧ Hid (Below w.heap.size w wr)) (fun iv _ => n - (intOf iv).toNat)
 case atStart => exact ⟨j0, hj1.2.1, fun h => by have := hj1.2.2 h; omega, rfl, B3, X3⟩
 case round =>
  obtain ⟨j, hj, hj2, rfl, B4, X4⟩ := hrel
  by_cases hlt : j < n
  ·have hpos := hj2 (by omega)
   obtain ⟨k, hk⟩ : ∃ k : Nat, k = Nat.min j (n - j) := ⟨_, rfl⟩
   have hk1 : k ≤ j ∧ k ≤ n - j ∧ 1 ≤ k := by rw [hk]; simp only [Nat.min_def]; split <;> omega
   have hcp : ∀ ty, (Builtin.copy_ #[70, 70] ty #[.slice (some ⟨w1.heap.size, j * 3, none⟩) (n - j) (n - j), .slice (some ⟨w1.heap.size, 0, none⟩) j n]).run Tryz.prog wr.drew = .ok (goInt k) (wr.drew.setRow w1.heap.size (repV us n (j + k)).toArray) := by
    intro ty
    have hrl : ((List.replicate k us).flatten).length = k * 3 := by rw [repl_len, hu]
    have := run_copy_rows (P := Tryz.prog) wr.drew 70 70 ty 76 w1.heap.size (j * 3) (n - j) (n - j) ⟨w1.heap.size, 0, none⟩ j n 3 (repV us n j).toArray 76 ((List.replicate k us).flatten) Tryz.underlying70 hsz B4.out.drew k hk hrl (fun i v hv => by
     rw [Addr.add_lit, Nat.zero_add, B4.out.drew.cell]
     have hi : i < k * 3 := by
      rcases Nat.lt_or_ge i (k * 3) with g | g
      ·exact g
      ·rw [List.getElem?_eq_none (by omega)] at hv; cases hv
     have e1 := rep_app us k (j - k)
     rw [show k + (j - k) = j by omega] at e1
     simp only [List.getElem?_toArray]
     unfold repV
     rw [List.getElem?_append_left (by rw [repl_len, hu]; omega), ← e1, List.getElem?_append_left (by omega)]
     exact hv) (by rw [hrl, List.size_toArray, repV_len hu hj]; omega) (ones k)
    rw [this, List.toList_toArray, repV_copy hu (by omega)]
   have B5 := blk_row B4.out.drew (repV us n (j + k)).toArray
   have X5 := hid (X4.out.drew.trans (row_below (B := w.heap.size) wr.drew (show w.heap.size ≤ w1.heap.size from z1) (repV us n (j + k)).toArray))
   clear hk
   have hjk : j + k ≤ n := by omega
   go_wp2_with fail
   go_region
   go_wp2_with fail
   go_roundw
   case rel => exact ⟨j + k, hjk, fun _ => by omega, by simp, B5, X5⟩
   case measure => simp [intOf]; omega
  ·obtain rfl : j = n := by omega
   go_wp2_with fail
   go_ret
   refine ⟨some ⟨w1.heap.size, 0, none⟩, j, rfl, ⟨Nat.le_refl _, by rw [repl_len, hu], .inr ⟨w1.heap.size, [], rfl, z1, by simp, ?_⟩⟩, fun h => h, X4.out⟩
   rw [List.append_nil, show (List.replicate j us).flatten = repV us j j from by simp [repV]]
   exact B4.out
def repeatN (el : TypeId) (sz : Nat) (args : List Arg) : Option ARes :=
 match args with
 | [.val false [.d (.sl s [row])], .val false [.d (.v (.int .i64 n))]] => if s = sz ∧ row.length = sz ∧ 0 ≤ n ∧ n ≤ 14 then some { vals := [(false, [.own (0, 1)])], bx := [((0, 1), .sl el sz (List.replicate n.toNat row))] } else none
 | _ => none
theorem repeatSpl_fn {args : List Arg} {r : ARes} (he : repeatN 76 3 args = some r) : FnSound Tryz.prog 56 args [] r := by
 unfold repeatN at he
 split at he
 ·rename_i s row n
  split at he
  ·rename_i hcnd
   obtain ⟨rfl, hrl, h0, h1⟩ := hcnd
   cases he
   refine fn_newSl (by omega) rfl rfl (fun V X Z ρ w vals hl hR => ?_)
   obtain ⟨_, hv0⟩ := args_val hR (i := 0) (av := .one false [.d (.sl 3 [row])]) rfl
   obtain ⟨_, hv1⟩ := args_val hR (i := 1) (av := .one false [.d (.v (.int .i64 n))]) rfl
   obtain ⟨A, cp, us, x1, x2, x3, x4, x5, x6⟩ := rd_cells (ρ := ρ) (ok := fun q => q.2 < 1) (by omega) (slot1_sound (c := .d (.sl 3 [row])) rfl hv0)
   have hn : vals.getD 1 undef = .int .i64 n := conV_sound (x := .int .i64 n) rfl hv1
   have hul : us.length = 3 := by rw [x2]; rfl
   have hlen : (List.replicate n.toNat row).length = n.toNat := by simp
   have x4' : All2 (CRel (fun b => ¬ V b ∧ b < w.heap.size) ρ (fun q => q.2 < 1) w) (row.map C.d) us := by
    have := x4.imp (R' := CRel (fun b => ¬ V b ∧ b < w.heap.size) ρ (fun q => q.2 < 1) w) fun cc v _ hcc => hcc.keep (Keep.refl _ _) (fun b hb hi => ⟨hi.1, hb⟩) (fun _ _ => rfl) (fun _ h => h)
    simpa using this
   refine ⟨(List.replicate n.toNat us).flatten, ?_, by rw [repl_len, hul, hlen], fun i r hi => by rw [List.eq_of_mem_replicate (List.mem_of_getElem? hi)]; exact hrl, by rw [hlen]; omega, ?_⟩
   ·rw [List.map_flatten, List.map_replicate]
    exact x4'.rep _
   ·have e1 : vals.toArray = #[.slice A 1 cp, .int .i64 (n.toNat : Int)] := by
      rw [vals_two hl, x1, hn, Int.toNat_of_nonneg h0]
      rfl
    rw [e1, hlen]
    exact repeat_spl A cp n.toNat w us x3 hul x4.ones (by omega)
  ·cases he
 ·cases he
end Go.Proofs.YtfnljcallbalgaaGreatDoor

