/- Rules of runs and contracts of functions, for the claims of one seat. -/
import Derived.Test.YtbdjcgjdmhgnmaaGreatQA14
import Derived.Test.YtbdjcgjdmhgnmaaGreatQA23
import Derived.Test.YtbdjcgjdmhgnmaaGreatQA34
namespace Go.Proofs.YtbdjcgjdmhgnmaaGreat
open Go Go.RowKit
set_option maxRecDepth 100000
set_option maxHeartbeats 8000000
set_option linter.unusedSimpArgs false
set_option linter.unusedVariables false
theorem pnew_fn (p : Prob) (rs : List Int) (l : List StepD) (hs : setErr p rs = 0) (hc : checkP p l = true) (hl : l.length ≤ 1000000) : FnSound Tryz.prog 27 [.val true (probC p), .val false [.d (.sl 1 (dInts rs))], .val false [.d (.sl 3 (dSteps l))]] [] { vals := [(true, ctlC (newP p rs l).1), (false, [.d (.v (.int .i64 0))])] } := by
 have hso := setErr_ok hs
 have hv := hso.1
 have hvp := vp_all hv
 have hk := pcheck_fn p l hv hl
 rw [hc] at hk
 have hst := psetting_fn p rs (by omega)
 rw [hs] at hst
 have e : (newP p rs l).1 = ⟨l, 0, if l.length = 0 then 6 else 0, 0, 0, 0, startM p⟩ := by unfold newP; rw [if_neg (by simpa using hs), hc, if_neg (by decide)]
 rw [e]
 refine startW (tm := [(0, _), (1, _), (2, _)]) Tryz.func27 rfl Tryz.ntmps27 rfl rfl rfl rfl ?_
 repeat' (first
 |(with_reducible refine K_ca 49 ?_); refine zC (hst) ?_
 |(with_reducible refine K_ca 56 ?_); refine zC (hk) ?_
 |(with_reducible refine K_ca 57 ?_); refine zC (pstart_fn p hv) ?_
 |(with_reducible refine K_ca 58 ?_); refine zS (cloneSteps_fn l hl) ?_
 |refine wA ?_
 |(refine wC ?_ ?_ <;> intro hc)
 |refine wB ?_ ?_
 |(with_reducible refine JL.block ?_)
 |(with_reducible refine F_at ?_); refine eW (vs := [(_, _), (_, _)]) Tryz.results27 ?_; (focus (repeat' (first | exact oA | refine oB ?_ | refine oC ?_ ?_ | fail)))
 |exact oM
 |fail)
 all_goals first | rfl | (rw [if_pos (by omega)] <;> rfl) | (rw [if_neg (by omega)] <;> rfl) | trace_state
theorem pfirst_fn (rs : List Int) (s : Int) (hs : 0 ≤ s ∧ s ≤ rs.length) (hr : ∀ k, k < rs.length → 1 ≤ rs.getD k 0 ∧ rs.getD k 0 ≤ 4) (hl : rs.length ≤ 100) : FnSound Tryz.prog 44 [.val false [.d (.sl 1 (dInts rs))], .val false [.d (.v (.int .i64 s))]] [] { vals := [(false, [.d (.v (.int .i64 (firstR rs s)))])] } := by
 have hsl := sum_le hr
 have e1 : List.take (s.toNat - Int.toNat 0) (List.drop (Int.toNat 0) rs) = rs.take s.toNat := by simp
 have e2 : (List.take (s.toNat - Int.toNat 0) (List.drop (Int.toNat 0) rs)).length = s.toNat := by rw [e1, List.length_take]; omega
 have e3 : ∀ k : Nat, (k : Int) < s → (List.take (s.toNat - Int.toNat 0) (List.drop (Int.toNat 0) rs)).getD k 0 = rs.getD k 0 := fun k hk => by
  rw [e1, List.getD_eq_getElem?_getD, List.getElem?_take_of_lt (by omega), ← List.getD_eq_getElem?_getD]
 refine startW (tm := [(0, _), (1, _)]) Tryz.func44 rfl Tryz.ntmps44 rfl rfl rfl rfl ?_
 repeat' (first
 |(with_reducible refine blk_at (id := 0) ?_); ((with_reducible refine JL.loopW 0 399 (fun (k : Nat) tm => (12, .one false [.d (.v (.int .i64 ((k : Int))))]) :: (5, .one false [.d (.v (.int .i64 ((rs.take k).sum)))]) :: tm) (fun (k : Nat) bo => bo) (fun (k : Nat) => (k : Int) ≤ s) (fun (k : Nat) => s.toNat - k) (0) ?_ (fun k hk => have h1 := hsl k; have h2 := hr k; have h3 := e3 k; ?_) ?_); (focus (apply SubW [] rfl ?_ ?_ rfl ?_; (repeat' (first | exact kA | refine kB ?_ | refine kC ?_ ?_ | exact kD | fail)))))
 |((with_reducible refine round_next (i := k) (k + 1) ?_ ?_ ?_); (focus (apply SubW [] rfl ?_ ?_ rfl ?_; (repeat' (first | exact kA | refine kB ?_ | refine kC ?_ ?_ | exact kD | fail)))))
 |refine wA ?_
 |(refine wC ?_ ?_ <;> intro hc)
 |refine wB ?_ ?_
 |(with_reducible refine JL.block ?_)
 |(with_reducible refine F_at ?_); refine eW (vs := [(_, _)]) Tryz.results44 ?_; (focus (repeat' (first | exact oA | refine oB ?_ | refine oC ?_ ?_ | fail)))
 |exact oM
 |fail)
 all_goals first
  | rfl
  | (rw [h3 (by omega), ← sum_step (by omega)])
  | omega
  | (have e : k = s.toNat := by omega
     rw [e]; rfl)
  | trace_state
theorem rafter_fn (p : Prob) (m : MixD) (s : StepD) (hu : u8s m.held) : FnSound Tryz.prog 45 [.val true (probC p), .val true (mixC m), .val true (stepC s)] [] { vals := [(true, mixC (applyP p m s).1)] } := by
 refine startW (tm := [(0, _), (1, _), (2, _)]) Tryz.func45 rfl Tryz.ntmps45 rfl rfl rfl rfl ?_
 repeat' (first
 |(with_reducible refine K_ca 92 ?_); refine zC (qapply_fn p m s hu) ?_
 |refine wA ?_
 |(refine wC ?_ ?_ <;> intro hc)
 |refine wB ?_ ?_
 |(with_reducible refine JL.block ?_)
 |(with_reducible refine F_at ?_); refine eW (vs := [(_, _)]) Tryz.results45 ?_; (focus (repeat' (first | exact oA | refine oB ?_ | refine oC ?_ ?_ | fail)))
 |exact oM
 |fail)
 all_goals first | rfl | trace_state
def repC (p : Prob) (rs : List Int) (c : CtlD) : List C := [.d (.sl 1 (dInts p.vs)), .d (.sl 1 (dInts p.now)), .d (.sl 1 (dInts p.tgt)), .d (.sl 6 (dTabs p.tabs)), .d (.sl 1 (dInts rs)), .d (.sl 3 (dSteps c.plan)), .d (.v (.int .i64 c.at_)), .d (.v (.int .i64 c.phase)), .d (.v (.int .i64 c.replica)), .d (.v (.int .i64 c.round)), .d (.v (.int .i64 c.token)), .d (.sl 1 (dInts c.mix.base)), .d (.sl 1 (dInts c.mix.next)), .d (.sl 1 (dSets c.mix.held))]
theorem rstep_fn (p : Prob) (rs : List Int) (c : CtlD) (h0 : 0 ≤ c.at_ ∧ c.at_ ≤ c.plan.length) (hl : c.plan.length ≤ 1000000) : FnSound Tryz.prog 59 [.io 83 (repC p rs c)] [] { vals := [(true, stepC (present c))], ios := [repC p rs c] } := by
 by_cases hlt : c.at_ < c.plan.length
 ·refine startO (tm := [(0, _)]) [((0, 0), some (.st 83 (repC p rs c)))] Tryz.func59 rfl Tryz.ntmps59 rfl rfl rfl rfl ?_
  repeat' (first
 |refine wA ?_
 |(refine wC ?_ ?_ <;> intro hc)
 |refine wB ?_ ?_
 |(with_reducible refine JL.block ?_)
 |(with_reducible refine FO_at ?_); refine eO (vs := [(_, _)]) Tryz.results59 ?_
 |exact oM
 |fail)
  all_goals first | (exfalso; omega) | kernel_rfl
 ·have e : present c = nilS := by
    unfold present
    rw [List.getD_eq_getElem?_getD, List.getElem?_eq_none (by omega)]; rfl
  rw [e]
  refine startO (tm := [(0, _)]) [((0, 0), some (.st 83 (repC p rs c)))] Tryz.func59 rfl Tryz.ntmps59 rfl rfl rfl rfl ?_
  repeat' (first
 |refine wA ?_
 |(refine wC ?_ ?_ <;> intro hc)
 |refine wB ?_ ?_
 |(with_reducible refine JL.block ?_)
 |(with_reducible refine FO_at ?_); refine eO (vs := [(_, _)]) Tryz.results59 ?_
 |exact oM
 |fail)
  all_goals first | (exfalso; omega) | kernel_rfl
theorem rbegin3 (p : Prob) (rs : List Int) (c : CtlD) (hk : (present c).kind = 3) : FnSound Tryz.prog 60 [.io 83 (repC p rs c), .val true (stepC (present c))] [] { vals := [], ios := [repC p rs (beginR p rs c)] } := by
 have e : beginR p rs c = ⟨c.plan, c.at_, 4, c.replica, c.round, c.token, c.mix⟩ := by unfold beginR; rw [if_pos hk]
 rw [e]
 refine startO (tm := [(0, _), (1, _)]) [((0, 0), some (.st 83 (repC p rs c)))] Tryz.func60 rfl Tryz.ntmps60 rfl rfl rfl rfl ?_
 repeat' (first
 |refine wA ?_
 |(refine wC ?_ ?_ <;> intro hc)
 |refine wB ?_ ?_
 |(with_reducible refine JL.block ?_)
 |(with_reducible refine FO_at ?_); refine eO (vs := []) Tryz.results60 ?_
 |exact oM
 |fail)
 all_goals first | (exfalso; omega) | kernel_rfl
theorem rbegin1 (p : Prob) (rs : List Int) (c : CtlD) (h : CtlK p c) (hv : PlanV p c.plan) (hs : setErr p rs = 0) (hp : c.phase = 0) (hk : (present c).kind = 1) : FnSound Tryz.prog 60 [.io 83 (repC p rs c), .val true (stepC (present c))] [] { vals := [], ios := [repC p rs (beginR p rs c)] } := by
 have hso := setErr_ok hs
 have hvp := vp_all hso.1
 have hix := h.idx (by omega) (by omega)
 have hix : 0 ≤ (present c).idx ∧ (present c).idx < p.vs.length ∧ c.mix.base.length = p.vs.length ∧ c.mix.next.length = p.vs.length := hix
 have hok := h.stepOK (by omega)
 have ha := rafter_fn p c.mix (present c) h.g.u
 rw [apply_is (h.valid hv) hok.1 hok.2] at ha
 have hrl := hso.2.1
 have hfr := pfirst_fn rs (present c).idx (by omega) hso.2.2 (by omega)
 have e : beginR p rs c = ⟨c.plan, c.at_, 1, firstR rs (present c).idx, c.round, c.token, afterM p c.mix (present c)⟩ := by unfold beginR; rw [if_neg (by omega), if_pos hk]
 rw [e]
 refine startO (tm := [(0, _), (1, _)]) [((0, 0), some (.st 83 (repC p rs c)))] Tryz.func60 rfl Tryz.ntmps60 rfl rfl rfl rfl ?_
 repeat' (first
 |(with_reducible refine K_ca 44 ?_); refine zC (hfr) ?_
 |(with_reducible refine K_ca 45 ?_); refine zC (ha) ?_
 |refine wA ?_
 |(refine wC ?_ ?_ <;> intro hc)
 |refine wB ?_ ?_
 |(with_reducible refine JL.block ?_)
 |(with_reducible refine FO_at ?_); refine eO (vs := []) Tryz.results60 ?_
 |exact oM
 |fail)
 all_goals first | (exfalso; omega) | kernel_rfl
theorem rbegin2 (p : Prob) (rs : List Int) (c : CtlD) (h : CtlK p c) (hs : setErr p rs = 0) (hp : c.phase = 0) (hk3 : ¬ (present c).kind = 3) (hk : ¬ (present c).kind = 1) : FnSound Tryz.prog 60 [.io 83 (repC p rs c), .val true (stepC (present c))] [] { vals := [], ios := [repC p rs (beginR p rs c)] } := by
 have hso := setErr_ok hs
 have hvp := vp_all hso.1
 have hix := h.idx (by omega) hk3
 have hix : 0 ≤ (present c).idx ∧ (present c).idx < p.vs.length ∧ c.mix.base.length = p.vs.length ∧ c.mix.next.length = p.vs.length := hix
 have hrl := hso.2.1
 have hfr := pfirst_fn rs (present c).idx (by omega) hso.2.2 (by omega)
 have e : beginR p rs c = ⟨c.plan, c.at_, 1, firstR rs (present c).idx, c.round, c.token, c.mix⟩ := by unfold beginR; rw [if_neg hk3, if_neg hk]
 rw [e]
 refine startO (tm := [(0, _), (1, _)]) [((0, 0), some (.st 83 (repC p rs c)))] Tryz.func60 rfl Tryz.ntmps60 rfl rfl rfl rfl ?_
 repeat' (first
 |(with_reducible refine K_ca 44 ?_); refine zC (hfr) ?_
 |refine wA ?_
 |(refine wC ?_ ?_ <;> intro hc)
 |refine wB ?_ ?_
 |(with_reducible refine JL.block ?_)
 |(with_reducible refine FO_at ?_); refine eO (vs := []) Tryz.results60 ?_
 |exact oM
 |fail)
 all_goals first | (exfalso; omega) | kernel_rfl
end Go.Proofs.YtbdjcgjdmhgnmaaGreat

