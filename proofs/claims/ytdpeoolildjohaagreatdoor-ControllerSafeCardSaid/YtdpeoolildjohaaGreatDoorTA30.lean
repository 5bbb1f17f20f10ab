/- Rules of runs and contracts of functions, for the claims of one seat. -/
import Derived.Test.YtdpeoolildjohaaGreatDoorQA14
import Derived.Test.YtdpeoolildjohaaGreatDoorQA23
import Derived.Test.YtdpeoolildjohaaGreatDoorQA29
namespace Go.Proofs.YtdpeoolildjohaaGreatDoor
open Go Go.RowKit
set_option maxRecDepth 100000
set_option maxHeartbeats 8000000
set_option linter.unusedSimpArgs false
set_option linter.unusedVariables false
theorem setting_fn (p : Prob) (rs : List Int) : FnSound Tryz.prog 48 [.val true (probC p), .val false [.d (.sl 1 (dInts rs))]] [] { vals := [(false, [.d (.v (.int .i64 (setErr p rs)))])] } := by
 refine startW (tm := [(0, _), (1, _)]) Tryz.func48 rfl Tryz.ntmps48 rfl rfl rfl rfl ?_
 repeat' (first
 |(with_reducible refine rgn 9 900 ?_ ?_); exact rfl
 |(with_reducible refine rgn 10 1000 ?_ ?_); exact rfl
 |(with_reducible refine rgn 8 1100 ?_ ?_); exact rfl
 |(with_reducible refine K_ca 67 ?_); refine zC (rvp_fn p) ?_
 |(with_reducible refine blk_at (id := 0) ?_); ((with_reducible refine JL.loopW 0 799 (fun (k : Nat) tm => (6, .one false [.d (.v (.int .i64 ((k : Int))))]) :: tm) (fun (k : Nat) bo => bo) (fun (k : Nat) => k ≤ rs.length ∧ ∀ j, j < k → 1 ≤ rs.getD j 0 ∧ rs.getD j 0 ≤ 4) (fun (k : Nat) => rs.length - k) (0) ?_ (fun k hk => have hvp := vp_all (p := p) (by assumption); ?_) ?_); (focus (apply SubW [] rfl ?_ ?_ rfl ?_; (repeat' (first | exact kA | refine kB ?_ | refine kC ?_ ?_ | exact kD | fail)))))
 |((with_reducible refine round_next (i := k) (k + 1) ?_ ?_ ?_); (focus (apply SubW [] rfl ?_ ?_ rfl ?_; (repeat' (first | exact kA | refine kB ?_ | refine kC ?_ ?_ | exact kD | fail)))))
 |refine wA ?_
 |(refine wC ?_ ?_ <;> intro hc)
 |refine wB ?_ ?_
 |(with_reducible refine JL.block ?_)
 |(with_reducible refine F_at ?_); refine eW (vs := [(_, _)]) Tryz.results48 ?_; (focus (repeat' (first | exact oA | refine oB ?_ | refine oC ?_ ?_ | fail)))
 |exact oM
 |fail)
 all_goals first
  | exact (setErr_vp hc).symm
  | exact (setErr_ar (by assumption) (by omega)).symm
  | exact (setErr_rg (k := k) (by assumption) (by omega) (by omega) (by omega)).symm
  | exact (setErr_yes (k := k) (by assumption) (by omega) (by omega) hk.2).symm
  | (refine ⟨by omega, fun j hj => ?_⟩; by_cases e : j = k; (subst e; omega); exact hk.2 j (by omega))
  | (refine ⟨Nat.zero_le _, fun j hj => absurd hj (Nat.not_lt_zero j)⟩)
theorem settingOK_fn {p : Prob} {rs : List Int} (h : setErr p rs = 0) : FnSound Tryz.prog 48 [.val true (probC p), .val false [.d (.sl 1 (dInts rs))]] [] { vals := [(false, [.d (.v (.int .i64 0))])] } := by rw [← h]; exact setting_fn p rs
theorem first_fn (rs : List Int) (s : Int) (hs : 0 ≤ s ∧ s ≤ rs.length) (hr : ∀ k, k < rs.length → 1 ≤ rs.getD k 0 ∧ rs.getD k 0 ≤ 4) (hl : rs.length ≤ 100) : FnSound Tryz.prog 28 [.val false [.d (.sl 1 (dInts rs))], .val false [.d (.v (.int .i64 s))]] [] { vals := [(false, [.d (.v (.int .i64 (firstR rs s)))])] } := by
 have hsl := sum_le hr
 refine startW (tm := [(0, _), (1, _)]) Tryz.func28 rfl Tryz.ntmps28 rfl rfl rfl rfl ?_
 repeat' (first
 |(with_reducible refine rgn 5 500 ?_ ?_); exact rfl
 |(with_reducible refine rgn 4 600 ?_ ?_); exact rfl
 |(with_reducible refine blk_at (id := 0) ?_); ((with_reducible refine JL.loopW 0 399 (fun (k : Nat) tm => (6, .one false [.d (.v (.int .i64 ((k : Int))))]) :: (5, .one false [.d (.v (.int .i64 ((rs.take k).sum)))]) :: tm) (fun (k : Nat) bo => bo) (fun (k : Nat) => (k : Int) ≤ s) (fun (k : Nat) => s.toNat - k) (0) ?_ (fun k hk => have h1 := hsl k; have h2 := hr k; ?_) ?_); (focus (apply SubW [] rfl ?_ ?_ rfl ?_; (repeat' (first | exact kA | refine kB ?_ | refine kC ?_ ?_ | exact kD | fail)))))
 |((with_reducible refine round_next (i := k) (k + 1) ?_ ?_ ?_); (focus (apply SubW [] rfl ?_ ?_ rfl ?_; (repeat' (first | exact kA | refine kB ?_ | refine kC ?_ ?_ | exact kD | fail)))))
 |refine wA ?_
 |(refine wC ?_ ?_ <;> intro hc)
 |refine wB ?_ ?_
 |(with_reducible refine JL.block ?_)
 |(with_reducible refine F_at ?_); refine eW (vs := [(_, _)]) Tryz.results28 ?_; (focus (repeat' (first | exact oA | refine oB ?_ | refine oC ?_ ?_ | fail)))
 |exact oM
 |fail)
 all_goals first
  | rfl
  | (rw [sum_step (by omega)])
  | (have e : k = s.toNat := by omega
     rw [e]; rfl)
theorem check_fn (p : Prob) (l : List StepD) (h : vpErr p = 0) (hl : l.length ≤ 1000000) : FnSound Tryz.prog 49 [.val true (probC p), .val false [.d (.sl 3 (dSteps l))]] [] { vals := [(false, [.d (.v (.bool (checkP p l)))])] } := by
 refine startW (tm := [(0, _), (1, _)]) Tryz.func49 rfl Tryz.ntmps49 rfl rfl rfl rfl ?_
 repeat' (first
 |(with_reducible refine K_ca 83 ?_); refine zC (fail_fn p l h hl) ?_
 |refine wA ?_
 |(refine wC ?_ ?_ <;> intro hc)
 |refine wB ?_ ?_
 |(with_reducible refine JL.block ?_)
 |(with_reducible refine F_at ?_); refine eW (vs := [(_, _)]) Tryz.results49 ?_; (focus (repeat' (first | exact oA | refine oB ?_ | refine oC ?_ ?_ | fail)))
 |exact oM
 |fail)
 all_goals rfl
theorem new_fn (p : Prob) (rs : List Int) (l : List StepD) (hs : setErr p rs = 0) (hc : checkP p l = true) (hl : l.length ≤ 1000000) : FnSound Tryz.prog 16 [.val true (probC p), .val false [.d (.sl 1 (dInts rs))], .val false [.d (.sl 3 (dSteps l))]] [] { vals := [(true, ctlC (newP p rs l).1), (false, [.d (.v (.int .i64 0))])] } := by
 have hv := (setErr_ok hs).1
 have hk := check_fn p l hv hl
 rw [hc] at hk
 have e : (newP p rs l).1 = ⟨l, 0, if l.length = 0 then 6 else 0, 0, 0, 0, startM p⟩ := by unfold newP; rw [if_neg (by simpa using hs), hc, if_neg (by decide)]
 rw [e]
 refine startW (tm := [(0, _), (1, _), (2, _)]) Tryz.func16 rfl Tryz.ntmps16 rfl rfl rfl rfl ?_
 repeat' (first
 |(with_reducible refine K_ca 48 ?_); refine zC (settingOK_fn hs) ?_
 |(with_reducible refine K_ca 49 ?_); refine zC (hk) ?_
 |(with_reducible refine K_ca 43 ?_); refine zC (start_fn p hv) ?_
 |refine wA ?_
 |(refine wC ?_ ?_ <;> intro hc)
 |refine wB ?_ ?_
 |(with_reducible refine JL.block ?_)
 |(with_reducible refine F_at ?_); refine eW (vs := [(_, _), (_, _)]) Tryz.results16 ?_; (focus (repeat' (first | exact oA | refine oB ?_ | refine oC ?_ ?_ | fail)))
 |exact oM
 |fail)
 all_goals first | rfl | (rw [if_pos (by omega)] <;> rfl) | (rw [if_neg (by omega)] <;> rfl) | trace_state
theorem runs_fn (p : Prob) (m : MixD) (l : List StepD) (hm : MixG p m) (h : mixErr p m = 0) (hl : l.length ≤ 1000000) : FnSound Tryz.prog 105 [.val true (probC p), .val true (mixC m), .val false [.d (.sl 3 (dSteps l))]] [] { vals := [(false, [.d (.sl 3 (dMixes (runP p m l).1))]), (false, [.d (.v (.int .i64 (runP p m l).2.1))]), (false, [.d (.v (.int .i64 (runP p m l).2.2))])] } := by
 refine startW (tm := [(0, _), (1, _), (2, _)]) Tryz.func105 rfl Tryz.ntmps105 rfl rfl rfl rfl ?_
 repeat' (first
 |(with_reducible refine rgn 8 800 ?_ ?_); exact rfl
 |(with_reducible refine rgn 9 900 ?_ ?_); exact rfl
 |(with_reducible refine rgn 10 1000 ?_ ?_); exact rfl
 |(with_reducible refine rgn 11 1100 ?_ ?_); exact rfl
 |(with_reducible refine rgn 7 1200 ?_ ?_); exact rfl
 |(with_reducible refine K_ca 66 ?_); refine zC (mixValidOK_fn h) ?_
 |(with_reducible refine K_ca 110 ?_); refine zC (apply_fn p (y.2.getD y.1 nilM) (l.getD y.1 nilS)) ?_
 |(with_reducible refine blk_at (id := 0) ?_); (try (refine JL.zeroW 10 _ 37 3 rfl rfl ?_)); (refine JL.rekW 10 (1160, 651) rfl rfl rfl rfl ?_); ((with_reducible refine JL.loopW 0 699 (fun (y : Nat × List MixD) tm => (11, .one false [.d (.v (.int .i64 ((y.1 : Int))))]) :: (10, .one false [.own (1160, 651)]) :: tm) (fun (y : Nat × List MixD) bo => ((1160, 651), some (.sl 37 3 ((dMixes y.2)))) :: bo) (fun (y : Nat × List MixD) => y.1 ≤ l.length ∧ y.2.length = y.1 + 1 ∧ runL p (l.drop y.1) (y.2.getD y.1 nilM) y.1 y.2 = runP p m l) (fun (y : Nat × List MixD) => l.length - y.1) ((0, [m])) ?_ (fun y hy => ?_) ?_); (focus (apply SubW [((1160, 651), _)] rfl ?_ ?_ rfl ?_; (repeat' (first | exact kA | refine kB ?_ | refine kC ?_ ?_ | exact kD | fail)))))
 |((with_reducible refine round_next (i := y) ((y.1 + 1, y.2 ++ [(applyP p (y.2.getD y.1 nilM) (l.getD y.1 nilS)).1])) ?_ ?_ ?_); (focus (apply SubW [((1160, 651), _)] rfl ?_ ?_ rfl ?_; (repeat' (first | exact kA | refine kB ?_ | refine kC ?_ ?_ | exact kD | fail)))))
 |refine wA ?_
 |(refine wC ?_ ?_ <;> intro hc)
 |refine wB ?_ ?_
 |(with_reducible refine JL.block ?_)
 |(with_reducible refine F_at ?_); refine eW (vs := [(_, _), (_, _), (_, _)]) Tryz.results105 ?_; (focus (repeat' (first | exact oA | refine oB ?_ | refine oC ?_ ?_ | fail)))
 |exact oM
 |fail)
 all_goals first
  | rfl
  | (rw [← hy.2.2, runL_at (by omega), if_pos hc] <;> rfl)
  | (rw [← hy.2.2, List.drop_eq_nil_of_le (by omega)] <;> rfl)
  | (rw [← hy.2.2, List.drop_eq_nil_of_le (by omega)]; show (l.length : Int) = (y.1 : Int); omega)
  | (refine ⟨by dsimp only; omega, by dsimp only; rw [List.length_append, hy.2.1]; rfl, ?_⟩
     rw [← hy.2.2, runL_at (k := y.1) (by omega), if_neg (fun a => a hc)]
     dsimp only
     rw [show y.1 + 1 = y.2.length from hy.2.1.symm, getD_last])
  | (refine ⟨Nat.zero_le _, rfl, ?_⟩; unfold runP; rw [if_neg (by simpa using h)]; rfl)
  | trace_state
theorem mixes_fn (p : Prob) (l : List StepD) (h : PlanOK p l) (hl : l.length ≤ 1000000) : FnSound Tryz.prog 68 [.val true (probC p), .val false [.d (.sl 3 (dSteps l))]] [] { vals := [(false, [.d (.sl 3 (dMixes (mixesP p l)))])] } := by
 refine startW (tm := [(0, _), (1, _)]) Tryz.func68 rfl Tryz.ntmps68 rfl rfl rfl rfl ?_
 repeat' (first
 |(with_reducible refine K_ca 43 ?_); refine zC (start_fn p h.vp) ?_
 |(with_reducible refine K_ca 105 ?_); refine zC (runs_fn p (startM p) l (start_g h.vp) (start_err h.vp) hl) ?_
 |refine wA ?_
 |(refine wC ?_ ?_ <;> intro hc)
 |refine wB ?_ ?_
 |(with_reducible refine JL.block ?_)
 |(with_reducible refine F_at ?_); refine eW (vs := [(_, _)]) Tryz.results68 ?_; (focus (repeat' (first | exact oA | refine oB ?_ | refine oC ?_ ?_ | fail)))
 |exact oM
 |fail)
 all_goals rfl
theorem aborted_fn (p : Prob) (l : List StepD) (at_ : Int) (h : PlanOK p l) (hl : l.length ≤ 1000000) (ha : 0 ≤ at_ ∧ at_ < l.length) (hk : (l.getD at_.toNat nilS).kind = 1) : FnSound Tryz.prog 70 [.val true (probC p), .val false [.d (.sl 3 (dSteps l))], .val false [.d (.v (.int .i64 at_))]] [] { vals := [(true, mixC (abortedP p l at_))] } := by
 have hln := h.len
 have hst := h.step (k := at_.toNat) (by omega)
 refine startW (tm := [(0, _), (1, _), (2, _)]) Tryz.func70 rfl Tryz.ntmps70 rfl rfl rfl rfl ?_
 repeat' (first
 |(with_reducible refine K_ca 68 ?_); refine zC (mixes_fn p l h hl) ?_
 |(with_reducible refine K_ca 75 ?_); refine zC (after_fn p ((mixesP p l).getD (at_ + 1).toNat nilM) ⟨4, (l.getD at_.toNat nilS).idx, 0⟩ (h.g (by omega)).inn (abort_at hst.1 (by omega)) ⟨show (1 : Int) ≤ 4 by decide, show (4 : Int) ≤ 4 by decide⟩) ?_
 |refine wA ?_
 |(refine wC ?_ ?_ <;> intro hc)
 |refine wB ?_ ?_
 |(with_reducible refine JL.block ?_)
 |(with_reducible refine F_at ?_); refine eW (vs := [(_, _)]) Tryz.results70 ?_; (focus (repeat' (first | exact oA | refine oB ?_ | refine oC ?_ ?_ | fail)))
 |exact oM
 |fail)
 all_goals first | rfl | trace_state
theorem kind_fn (l : List StepD) (at_ : Int) (ha : 0 ≤ at_) (hl : l.length ≤ 1000000) : FnSound Tryz.prog 69 [.val false [.d (.sl 3 (dSteps l))], .val false [.d (.v (.int .i64 at_))]] [] { vals := [(false, [.d (.v (.int .i64 (kindP l at_)))])] } := by
 refine startW (tm := [(0, _), (1, _)]) Tryz.func69 rfl Tryz.ntmps69 rfl rfl rfl rfl ?_
 repeat' (first
 |refine wA ?_
 |(refine wC ?_ ?_ <;> intro hc)
 |refine wB ?_ ?_
 |(with_reducible refine JL.block ?_)
 |(with_reducible refine F_at ?_); refine eW (vs := [(_, _)]) Tryz.results69 ?_; (focus (repeat' (first | exact oA | refine oB ?_ | refine oC ?_ ?_ | fail)))
 |exact oM
 |fail)
 all_goals (unfold kindP; first | rw [if_pos hc] | rw [if_neg hc])
theorem expect_fn (p : Prob) (l : List StepD) (at_ ph : Int) (hv : vpErr p = 0) (hl : l.length ≤ 1000000) : FnSound Tryz.prog 35 [.val true (probC p), .val false [.d (.sl 3 (dSteps l))], .val false [.d (.v (.int .i64 at_))], .val false [.d (.v (.int .i64 ph))]] [] { vals := [(true, mixC (expectP p l at_ ph).1), (false, [.d (.v (.int .i64 (expectP p l at_ ph).2))])] } := by
 have hk := check_fn p l hv hl
 cases hck : checkP p l with
 | false =>
  rw [hck] at hk
  have e : expectP p l at_ ph = (nilM, 13) := by unfold expectP; rw [if_neg (by simpa using hv), if_pos hck]
  rw [e]
  refine startW (tm := [(0, _), (1, _), (2, _), (3, _)]) Tryz.func35 rfl Tryz.ntmps35 rfl rfl rfl rfl ?_
  repeat' (first
 |(with_reducible refine K_ca 67 ?_); refine zC (rvpOK_fn hv) ?_
 |(with_reducible refine K_ca 49 ?_); refine zC (hk) ?_
 |refine wA ?_
 |(refine wC ?_ ?_ <;> intro hc)
 |refine wB ?_ ?_
 |(with_reducible refine JL.block ?_)
 |(with_reducible refine F_at ?_); refine eW (vs := [(_, _), (_, _)]) Tryz.results35 ?_; (focus (repeat' (first | exact oA | refine oB ?_ | refine oC ?_ ?_ | fail)))
 |exact oM
 |fail)
  all_goals rfl
 | true =>
  rw [hck] at hk
  have hp := planOK_of hv (start_err hv) hck
  have hln := hp.len
  have e : expectP p l at_ ph = if at_ < 0 ∨ l.length < at_ ∨ ¬ (ph = 6 ↔ at_ = l.length) then (nilM, 7)
   else if ph = 0 ∨ ph = 6 ∨ (ph = 1 ∧ kindP l at_ = 2) ∨ (ph = 4 ∧ kindP l at_ = 3) then ((mixesP p l).getD at_.toNat nilM, 0)
   else if (ph = 1 ∨ ph = 2 ∨ ph = 3) ∧ kindP l at_ = 1 then ((mixesP p l).getD (at_ + 1).toNat nilM, 0)
   else if ph = 5 ∧ kindP l at_ = 1 then (abortedP p l at_, 0)
   else (nilM, 7) := by unfold expectP; rw [if_neg (by simpa using hv), if_neg (by rw [hck]; decide)]
  rw [e]
  have hkl : kindP l at_ = 1 → at_ < l.length ∧ (l.getD at_.toNat nilS).kind = 1 := fun a => by
   unfold kindP at a
   split at a
   ·exact ⟨by assumption, a⟩
   ·cases a
  refine startW (tm := [(0, _), (1, _), (2, _), (3, _)]) Tryz.func35 rfl Tryz.ntmps35 rfl rfl rfl rfl ?_
  repeat' (first
 |(with_reducible refine K_ca 67 ?_); refine zC (rvpOK_fn hv) ?_
 |(with_reducible refine K_ca 49 ?_); refine zC (hk) ?_
 |(with_reducible refine K_ca 68 ?_); refine zC (mixes_fn p l hp hl) ?_
 |(with_reducible refine K_ca 69 ?_); refine zC (kind_fn l at_ (by omega) hl) ?_
 |(with_reducible refine K_ca 70 ?_); refine zC (aborted_fn p l at_ hp hl (by omega) (hkl (by assumption)).2) ?_
 |refine wA ?_
 |(refine wC ?_ ?_ <;> intro hc)
 |refine wB ?_ ?_
 |(with_reducible refine JL.block ?_)
 |(with_reducible refine F_at ?_); refine eW (vs := [(_, _), (_, _)]) Tryz.results35 ?_; (focus (repeat' (first | exact oA | refine oB ?_ | refine oC ?_ ?_ | fail)))
 |exact oM
 |fail)
  all_goals ((repeat' split) <;> first | rfl | (exfalso; grind) | trace_state)
end Go.Proofs.YtdpeoolildjohaaGreatDoor

