/- Rules of runs and contracts of functions, for the claims of one seat. -/
import Derived.Test.YtngjhkgcfabciaaGreatQA15
import Derived.Test.YtngjhkgcfabciaaGreatQA25
import Derived.Test.YtngjhkgcfabciaaGreatQA27
import Derived.Test.YtngjhkgcfabciaaGreatQA36
import Derived.Test.YtngjhkgcfabciaaGreatQA40
namespace Go.Proofs.YtngjhkgcfabciaaGreat
open Go Go.RowKit
set_option maxRecDepth 100000
set_option maxHeartbeats 8000000
set_option linter.unusedSimpArgs false
set_option linter.unusedVariables false
theorem pnew_fn (p : Prob) (rs : List Int) (l : List StepD) (hs : setErr p rs = 0) (hc : checkP p l = true) (hl : l.length ≤ 1000000) : FnSound Tryz.prog 28 [.val true (probC p), .val false [.d (.sl 1 (dInts rs))], .val false [.d (.sl 3 (dSteps l))]] [] { vals := [(true, ctlC (newP p rs l).1), (false, [.d (.v (.int .i64 0))])] } := by
 have hso := setErr_ok hs
 have hv := hso.1
 have hvp := vp_all hv
 have hk := pcheck_fn p l hv hl
 rw [hc] at hk
 have hst := psetting_fn p rs (by omega)
 rw [hs] at hst
 have e : (newP p rs l).1 = ⟨l, 0, if l.length = 0 then 6 else 0, 0, 0, 0, startM p⟩ := by unfold newP; rw [if_neg (by simpa using hs), hc, if_neg (by decide)]
 rw [e]
 refine startW (tm := [(0, _), (1, _), (2, _)]) Tryz.func28 rfl Tryz.ntmps28 rfl rfl rfl rfl ?_
 repeat' (first
 |(with_reducible refine K_ca 55 ?_); refine zC (hst) ?_
 |(with_reducible refine K_ca 56 ?_); refine zC (hk) ?_
 |(with_reducible refine K_ca 57 ?_); refine zC (pstart_fn p hv) ?_
 |(with_reducible refine K_ca 58 ?_); refine zS (cloneSteps_fn l hl) ?_
 |refine wA ?_
 |(refine wC ?_ ?_ <;> intro hc)
 |refine wB ?_ ?_
 |(with_reducible refine JL.block ?_)
 |(with_reducible refine F_at ?_); refine eW (vs := [(_, _), (_, _)]) Tryz.results28 ?_; (focus (repeat' (first | exact oA | refine oB ?_ | refine oC ?_ ?_ | fail)))
 |exact oM
 |fail)
 all_goals first | rfl | (rw [if_pos (by omega)] <;> rfl) | (rw [if_neg (by omega)] <;> rfl) | trace_state
theorem pfirst_fn (rs : List Int) (s : Int) (hs : 0 ≤ s ∧ s ≤ rs.length) (hr : ∀ k, k < rs.length → 1 ≤ rs.getD k 0 ∧ rs.getD k 0 ≤ 4) (hl : rs.length ≤ 100) : FnSound Tryz.prog 94 [.val false [.d (.sl 1 (dInts rs))], .val false [.d (.v (.int .i64 s))]] [] { vals := [(false, [.d (.v (.int .i64 (firstR rs s)))])] } := by
 have hsl := sum_le hr
 have e1 : List.take (s.toNat - Int.toNat 0) (List.drop (Int.toNat 0) rs) = rs.take s.toNat := by simp
 have e2 : (List.take (s.toNat - Int.toNat 0) (List.drop (Int.toNat 0) rs)).length = s.toNat := by rw [e1, List.length_take]; omega
 have e3 : ∀ k : Nat, (k : Int) < s → (List.take (s.toNat - Int.toNat 0) (List.drop (Int.toNat 0) rs)).getD k 0 = rs.getD k 0 := fun k hk => by
  rw [e1, List.getD_eq_getElem?_getD, List.getElem?_take_of_lt (by omega), ← List.getD_eq_getElem?_getD]
 refine startW (tm := [(0, _), (1, _)]) Tryz.func94 rfl Tryz.ntmps94 rfl rfl rfl rfl ?_
 repeat' (first
 |(with_reducible refine blk_at (id := 0) ?_); ((with_reducible refine JL.loopW 0 399 (fun (k : Nat) tm => (12, .one false [.d (.v (.int .i64 ((k : Int))))]) :: (5, .one false [.d (.v (.int .i64 ((rs.take k).sum)))]) :: tm) (fun (k : Nat) bo => bo) (fun (k : Nat) => (k : Int) ≤ s) (fun (k : Nat) => s.toNat - k) (0) ?_ (fun k hk => have h1 := hsl k; have h2 := hr k; have h3 := e3 k; ?_) ?_); (focus (apply SubW [] rfl ?_ ?_ rfl ?_; (repeat' (first | exact kA | refine kB ?_ | refine kC ?_ ?_ | exact kD | fail)))))
 |((with_reducible refine round_next (i := k) (k + 1) ?_ ?_ ?_); (focus (apply SubW [] rfl ?_ ?_ rfl ?_; (repeat' (first | exact kA | refine kB ?_ | refine kC ?_ ?_ | exact kD | fail)))))
 |refine wA ?_
 |(refine wC ?_ ?_ <;> intro hc)
 |refine wB ?_ ?_
 |(with_reducible refine JL.block ?_)
 |(with_reducible refine F_at ?_); refine eW (vs := [(_, _)]) Tryz.results94 ?_; (focus (repeat' (first | exact oA | refine oB ?_ | refine oC ?_ ?_ | fail)))
 |exact oM
 |fail)
 all_goals first
  | rfl
  | (rw [h3 (by omega), ← sum_step (by omega)])
  | omega
  | (have e : k = s.toNat := by omega
     rw [e]; rfl)
  | trace_state
theorem rafter_fn (p : Prob) (m : MixD) (s : StepD) (hu : u8s m.held) : FnSound Tryz.prog 62 [.val true (probC p), .val true (mixC m), .val true (stepC s)] [] { vals := [(true, mixC (applyP p m s).1)] } := by
 refine startW (tm := [(0, _), (1, _), (2, _)]) Tryz.func62 rfl Tryz.ntmps62 rfl rfl rfl rfl ?_
 repeat' (first
 |(with_reducible refine K_ca 95 ?_); refine zC (qapply_fn p m s hu) ?_
 |refine wA ?_
 |(refine wC ?_ ?_ <;> intro hc)
 |refine wB ?_ ?_
 |(with_reducible refine JL.block ?_)
 |(with_reducible refine F_at ?_); refine eW (vs := [(_, _)]) Tryz.results62 ?_; (focus (repeat' (first | exact oA | refine oB ?_ | refine oC ?_ ?_ | fail)))
 |exact oM
 |fail)
 all_goals first | rfl | trace_state
def repC (p : Prob) (rs : List Int) (c : CtlD) : List C := [.d (.sl 1 (dInts p.vs)), .d (.sl 1 (dInts p.now)), .d (.sl 1 (dInts p.tgt)), .d (.sl 6 (dTabs p.tabs)), .d (.sl 1 (dInts rs)), .d (.sl 3 (dSteps c.plan)), .d (.v (.int .i64 c.at_)), .d (.v (.int .i64 c.phase)), .d (.v (.int .i64 c.replica)), .d (.v (.int .i64 c.round)), .d (.v (.int .i64 c.token)), .d (.sl 1 (dInts c.mix.base)), .d (.sl 1 (dInts c.mix.next)), .d (.sl 1 (dSets c.mix.held))]
theorem rstep_fn (p : Prob) (rs : List Int) (c : CtlD) (h0 : 0 ≤ c.at_ ∧ c.at_ ≤ c.plan.length) (hl : c.plan.length ≤ 1000000) : FnSound Tryz.prog 59 [.io 90 (repC p rs c)] [] { vals := [(true, stepC (present c))], ios := [repC p rs c] } := by
 by_cases hlt : c.at_ < c.plan.length
 ·refine startO (tm := [(0, _)]) [((0, 0), some (.st 90 (repC p rs c)))] Tryz.func59 rfl Tryz.ntmps59 rfl rfl rfl rfl ?_
  repeat' (first
 |refine wA ?_
 |(refine wC ?_ ?_ <;> intro hc)
 |refine wB ?_ ?_
 |(with_reducible refine JL.block ?_)
 |(with_reducible refine FO_at ?_); refine eO (vs := [(_, _)]) Tryz.results59 ?_
 |exact oM
 |fail)
  all_goals first | (exfalso; omega) | kernel_rfl
 ·have e : present c = nilS := by
    unfold present
    rw [List.getD_eq_getElem?_getD, List.getElem?_eq_none (by omega)]; rfl
  rw [e]
  refine startO (tm := [(0, _)]) [((0, 0), some (.st 90 (repC p rs c)))] Tryz.func59 rfl Tryz.ntmps59 rfl rfl rfl rfl ?_
  repeat' (first
 |refine wA ?_
 |(refine wC ?_ ?_ <;> intro hc)
 |refine wB ?_ ?_
 |(with_reducible refine JL.block ?_)
 |(with_reducible refine FO_at ?_); refine eO (vs := [(_, _)]) Tryz.results59 ?_
 |exact oM
 |fail)
  all_goals first | (exfalso; omega) | kernel_rfl
theorem rbegin3 (p : Prob) (rs : List Int) (c : CtlD) (hk : (present c).kind = 3) : FnSound Tryz.prog 60 [.io 90 (repC p rs c), .val true (stepC (present c))] [] { vals := [], ios := [repC p rs (beginR p rs c)] } := by
 have e : beginR p rs c = ⟨c.plan, c.at_, 4, c.replica, c.round, c.token, c.mix⟩ := by unfold beginR; rw [if_pos hk]
 rw [e]
 refine startO (tm := [(0, _), (1, _)]) [((0, 0), some (.st 90 (repC p rs c)))] Tryz.func60 rfl Tryz.ntmps60 rfl rfl rfl rfl ?_
 repeat' (first
 |refine wA ?_
 |(refine wC ?_ ?_ <;> intro hc)
 |refine wB ?_ ?_
 |(with_reducible refine JL.block ?_)
 |(with_reducible refine FO_at ?_); refine eO (vs := []) Tryz.results60 ?_
 |exact oM
 |fail)
 all_goals first | (exfalso; omega) | kernel_rfl
theorem rbegin1 (p : Prob) (rs : List Int) (c : CtlD) (h : CtlK p c) (hv : PlanV p c.plan) (hs : setErr p rs = 0) (hp : c.phase = 0) (hk : (present c).kind = 1) : FnSound Tryz.prog 60 [.io 90 (repC p rs c), .val true (stepC (present c))] [] { vals := [], ios := [repC p rs (beginR p rs c)] } := by
 have hso := setErr_ok hs
 have hvp := vp_all hso.1
 have hix := h.idx (by omega) (by omega)
 have hix : 0 ≤ (present c).idx ∧ (present c).idx < p.vs.length ∧ c.mix.base.length = p.vs.length ∧ c.mix.next.length = p.vs.length := hix
 have hok := h.stepOK (by omega)
 have ha := rafter_fn p c.mix (present c) h.g.u
 rw [apply_is (h.valid hv) hok.1 hok.2] at ha
 have hrl := hso.2.1
 have hfr := pfirst_fn rs (present c).idx (by omega) hso.2.2 (by omega)
 have e : beginR p rs c = ⟨c.plan, c.at_, 1, firstR rs (present c).idx, c.round, c.token, afterM p c.mix (present c)⟩ := by unfold beginR; rw [if_neg (by omega), if_pos hk]
 rw [e]
 refine startO (tm := [(0, _), (1, _)]) [((0, 0), some (.st 90 (repC p rs c)))] Tryz.func60 rfl Tryz.ntmps60 rfl rfl rfl rfl ?_
 repeat' (first
 |(with_reducible refine K_ca 94 ?_); refine zC (hfr) ?_
 |(with_reducible refine K_ca 62 ?_); refine zC (ha) ?_
 |refine wA ?_
 |(refine wC ?_ ?_ <;> intro hc)
 |refine wB ?_ ?_
 |(with_reducible refine JL.block ?_)
 |(with_reducible refine FO_at ?_); refine eO (vs := []) Tryz.results60 ?_
 |exact oM
 |fail)
 all_goals first | (exfalso; omega) | kernel_rfl
theorem rbegin2 (p : Prob) (rs : List Int) (c : CtlD) (h : CtlK p c) (hs : setErr p rs = 0) (hp : c.phase = 0) (hk3 : ¬ (present c).kind = 3) (hk : ¬ (present c).kind = 1) : FnSound Tryz.prog 60 [.io 90 (repC p rs c), .val true (stepC (present c))] [] { vals := [], ios := [repC p rs (beginR p rs c)] } := by
 have hso := setErr_ok hs
 have hvp := vp_all hso.1
 have hix := h.idx (by omega) hk3
 have hix : 0 ≤ (present c).idx ∧ (present c).idx < p.vs.length ∧ c.mix.base.length = p.vs.length ∧ c.mix.next.length = p.vs.length := hix
 have hrl := hso.2.1
 have hfr := pfirst_fn rs (present c).idx (by omega) hso.2.2 (by omega)
 have e : beginR p rs c = ⟨c.plan, c.at_, 1, firstR rs (present c).idx, c.round, c.token, c.mix⟩ := by unfold beginR; rw [if_neg hk3, if_neg hk]
 rw [e]
 refine startO (tm := [(0, _), (1, _)]) [((0, 0), some (.st 90 (repC p rs c)))] Tryz.func60 rfl Tryz.ntmps60 rfl rfl rfl rfl ?_
 repeat' (first
 |(with_reducible refine K_ca 94 ?_); refine zC (hfr) ?_
 |refine wA ?_
 |(refine wC ?_ ?_ <;> intro hc)
 |refine wB ?_ ?_
 |(with_reducible refine JL.block ?_)
 |(with_reducible refine FO_at ?_); refine eO (vs := []) Tryz.results60 ?_
 |exact oM
 |fail)
 all_goals first | (exfalso; omega) | kernel_rfl
end Go.Proofs.YtngjhkgcfabciaaGreat

namespace Go.Proofs.YtngjhkgcfabciaaGreat
open Go Go.RowKit
set_option maxRecDepth 100000
set_option maxHeartbeats 8000000
set_option linter.unusedSimpArgs false
set_option linter.unusedVariables false
theorem rbegins_fn (p : Prob) (rs : List Int) (c : CtlD) (h : CtlK p c) (hv : PlanV p c.plan) (hs : setErr p rs = 0) (hp : c.phase = 0) : FnSound Tryz.prog 60 [.io 90 (repC p rs c), .val true (stepC (present c))] [] { vals := [], ios := [repC p rs (beginR p rs c)] } := by
 by_cases k3 : (present c).kind = 3
 ·exact rbegin3 p rs c k3
 ·by_cases k1 : (present c).kind = 1
  ·exact rbegin1 p rs c h hv hs hp k1
  ·exact rbegin2 p rs c h hs hp k3 k1
theorem rdones_fn (p : Prob) (rs : List Int) (c : CtlD) (h : CtlK p c) (hv : PlanV p c.plan) (hl : c.plan.length ≤ 1000000) (hp : ¬ c.phase = 6) : FnSound Tryz.prog 61 [.io 90 (repC p rs c), .val true (stepC (present c))] [] { vals := [], ios := [repC p rs (doneR p c)] } := by
 have hr := h.rng
 have hlt := h.lt hp
 have hok := h.stepOK hp
 have ha := rafter_fn p c.mix (present c) h.g.u
 rw [apply_is (h.valid hv) hok.1 hok.2] at ha
 have w1 : w64 (c.at_ + 1) = c.at_ + 1 := w64_is (by omega)
 clear hok
 by_cases hk : (present c).kind = 1
 ·by_cases hq : c.at_ + 1 = c.plan.length
  ·have e : doneR p c = ⟨c.plan, c.at_ + 1, 6, 0, c.round, c.token, c.mix⟩ := by unfold doneR; rw [w1, if_pos hq, if_neg (fun a => a hk)]
   rw [e]
   refine startO (tm := [(0, _), (1, _)]) [((0, 0), some (.st 90 (repC p rs c)))] Tryz.func61 rfl Tryz.ntmps61 rfl rfl rfl rfl ?_
   repeat' (first
 |refine wA ?_
 |(refine wC ?_ ?_ <;> intro hc)
 |refine wB ?_ ?_
 |(with_reducible refine JL.block ?_)
 |(with_reducible refine FO_at ?_); refine eO (vs := []) Tryz.results61 ?_
 |exact oM
 |fail)
   all_goals first | (exfalso; omega) | kernel_rfl
  ·have e : doneR p c = ⟨c.plan, c.at_ + 1, 0, 0, c.round, c.token, c.mix⟩ := by unfold doneR; rw [w1, if_neg hq, if_neg (fun a => a hk)]
   rw [e]
   refine startO (tm := [(0, _), (1, _)]) [((0, 0), some (.st 90 (repC p rs c)))] Tryz.func61 rfl Tryz.ntmps61 rfl rfl rfl rfl ?_
   repeat' (first
 |refine wA ?_
 |(refine wC ?_ ?_ <;> intro hc)
 |refine wB ?_ ?_
 |(with_reducible refine JL.block ?_)
 |(with_reducible refine FO_at ?_); refine eO (vs := []) Tryz.results61 ?_
 |exact oM
 |fail)
   all_goals first | (exfalso; omega) | kernel_rfl
 ·by_cases hq : c.at_ + 1 = c.plan.length
  ·have e : doneR p c = ⟨c.plan, c.at_ + 1, 6, 0, c.round, c.token, afterM p c.mix (present c)⟩ := by unfold doneR; rw [w1, if_pos hq, if_pos hk]
   rw [e]
   refine startO (tm := [(0, _), (1, _)]) [((0, 0), some (.st 90 (repC p rs c)))] Tryz.func61 rfl Tryz.ntmps61 rfl rfl rfl rfl ?_
   repeat' (first
 |(with_reducible refine K_ca 62 ?_); refine zC (ha) ?_
 |refine wA ?_
 |(refine wC ?_ ?_ <;> intro hc)
 |refine wB ?_ ?_
 |(with_reducible refine JL.block ?_)
 |(with_reducible refine FO_at ?_); refine eO (vs := []) Tryz.results61 ?_
 |exact oM
 |fail)
   all_goals first | (exfalso; omega) | kernel_rfl
  ·have e : doneR p c = ⟨c.plan, c.at_ + 1, 0, 0, c.round, c.token, afterM p c.mix (present c)⟩ := by unfold doneR; rw [w1, if_neg hq, if_pos hk]
   rw [e]
   refine startO (tm := [(0, _), (1, _)]) [((0, 0), some (.st 90 (repC p rs c)))] Tryz.func61 rfl Tryz.ntmps61 rfl rfl rfl rfl ?_
   repeat' (first
 |(with_reducible refine K_ca 62 ?_); refine zC (ha) ?_
 |refine wA ?_
 |(refine wC ?_ ?_ <;> intro hc)
 |refine wB ?_ ?_
 |(with_reducible refine JL.block ?_)
 |(with_reducible refine FO_at ?_); refine eO (vs := []) Tryz.results61 ?_
 |exact oM
 |fail)
   all_goals first | (exfalso; omega) | kernel_rfl
section
variable (p : Prob) (rs : List Int) (c : CtlD) (k tk ix : Int) (dt : ByteArray)
def entC (k tk ix : Int) (dt : ByteArray) : List C := [.d (.v (.int .i64 k)), .d (.v (.int .i64 tk)), .d (.v (.int .i64 ix)), .d (.v (.string dt))]
theorem pone5 : FnSound Tryz.prog 29 [.io 90 (repC p rs c), .val true (entC 5 tk ix dt)] [] { vals := [(false, [.d (.v (.bool (oneP p rs c ⟨5, tk, ix, dt⟩).isSome))])], ios := [repC p rs (oneD p rs c ⟨5, tk, ix, dt⟩)] } := by
 have e : oneP p rs c ⟨5, tk, ix, dt⟩ = some c := by unfold oneP; simp
 unfold oneD
 rw [e]
 refine startO (tm := [(0, _), (1, _)]) [((0, 0), some (.st 90 (repC p rs c)))] Tryz.func29 rfl Tryz.ntmps29 rfl rfl rfl rfl ?_
 repeat' (first
 |(with_reducible refine rgn 9 900 ?_ ?_); exact rfl
 |(with_reducible refine rgn 10 1000 ?_ ?_); exact rfl
 |(with_reducible refine rgn 11 1100 ?_ ?_); exact rfl
 |(with_reducible refine rgn 12 1200 ?_ ?_); exact rfl
 |(with_reducible refine rgn 13 1300 ?_ ?_); exact rfl
 |(with_reducible refine rgn 14 1400 ?_ ?_); exact rfl
 |(with_reducible refine rgn 15 1500 ?_ ?_); exact rfl
 |(with_reducible refine rgn 16 1600 ?_ ?_); exact rfl
 |(with_reducible refine rgn 17 1700 ?_ ?_); exact rfl
 |(with_reducible refine rgn 18 1800 ?_ ?_); exact rfl
 |(with_reducible refine rgn 19 1900 ?_ ?_); exact rfl
 |(with_reducible refine rgn 20 2000 ?_ ?_); exact rfl
 |(with_reducible refine rgn 21 2100 ?_ ?_); exact rfl
 |(with_reducible refine rgn 22 2200 ?_ ?_); exact rfl
 |(with_reducible refine rgn 23 2300 ?_ ?_); exact rfl
 |(with_reducible refine rgn 24 2400 ?_ ?_); exact rfl
 |(with_reducible refine rgn 25 2500 ?_ ?_); exact rfl
 |(with_reducible refine rgn 8 2600 ?_ ?_); exact rfl
 |refine wA ?_
 |(refine wC ?_ ?_ <;> intro hc)
 |refine wB ?_ ?_
 |(with_reducible refine JL.block ?_)
 |(with_reducible refine FO_at ?_); refine eO (vs := [(_, _)]) Tryz.results29 ?_
 |exact oM
 |fail)
 all_goals first | (exfalso; omega) | kernel_rfl
theorem poneN (h0 : 0 ≤ c.at_ ∧ c.at_ ≤ c.plan.length) (hl : c.plan.length ≤ 1000000) (hk : ¬ k = 5) (hi : ¬ ix = c.at_) : FnSound Tryz.prog 29 [.io 90 (repC p rs c), .val true (entC k tk ix dt)] [] { vals := [(false, [.d (.v (.bool (oneP p rs c ⟨k, tk, ix, dt⟩).isSome))])], ios := [repC p rs (oneD p rs c ⟨k, tk, ix, dt⟩)] } := by
 have e : oneP p rs c ⟨k, tk, ix, dt⟩ = none := by unfold oneP; simp [hk, hi]
 unfold oneD
 rw [e]
 show FnSound _ _ _ _ { vals := [(false, [.d (.v (.bool false))])], ios := [repC p rs (if ¬ ix = c.at_ then c else bump c)] }
 rw [if_pos hi]
 refine startO (tm := [(0, _), (1, _)]) [((0, 0), some (.st 90 (repC p rs c)))] Tryz.func29 rfl Tryz.ntmps29 rfl rfl rfl rfl ?_
 repeat' (first
 |(with_reducible refine rgn 9 900 ?_ ?_); exact rfl
 |(with_reducible refine rgn 10 1000 ?_ ?_); exact rfl
 |(with_reducible refine rgn 11 1100 ?_ ?_); exact rfl
 |(with_reducible refine rgn 12 1200 ?_ ?_); exact rfl
 |(with_reducible refine rgn 13 1300 ?_ ?_); exact rfl
 |(with_reducible refine rgn 14 1400 ?_ ?_); exact rfl
 |(with_reducible refine rgn 15 1500 ?_ ?_); exact rfl
 |(with_reducible refine rgn 16 1600 ?_ ?_); exact rfl
 |(with_reducible refine rgn 17 1700 ?_ ?_); exact rfl
 |(with_reducible refine rgn 18 1800 ?_ ?_); exact rfl
 |(with_reducible refine rgn 19 1900 ?_ ?_); exact rfl
 |(with_reducible refine rgn 20 2000 ?_ ?_); exact rfl
 |(with_reducible refine rgn 21 2100 ?_ ?_); exact rfl
 |(with_reducible refine rgn 22 2200 ?_ ?_); exact rfl
 |(with_reducible refine rgn 23 2300 ?_ ?_); exact rfl
 |(with_reducible refine rgn 24 2400 ?_ ?_); exact rfl
 |(with_reducible refine rgn 25 2500 ?_ ?_); exact rfl
 |(with_reducible refine rgn 8 2600 ?_ ?_); exact rfl
 |(with_reducible refine K_ca 59 ?_); refine zI (rstep_fn p rs c h0 hl) ?_
 |refine wA ?_
 |(refine wC ?_ ?_ <;> intro hc)
 |refine wB ?_ ?_
 |(with_reducible refine JL.block ?_)
 |(with_reducible refine FO_at ?_); refine eO (vs := [(_, _)]) Tryz.results29 ?_
 |exact oM
 |fail)
 all_goals first | (exfalso; omega) | kernel_rfl
theorem poneF (h0 : 0 ≤ c.at_ ∧ c.at_ ≤ c.plan.length) (hl : c.plan.length ≤ 1000000) (hrd : -1000000000 ≤ c.round ∧ c.round ≤ 1000000000) (hk : ¬ k = 5) (hn : oneP p rs c ⟨k, tk, c.at_, dt⟩ = none) : FnSound Tryz.prog 29 [.io 90 (repC p rs c), .val true (entC k tk c.at_ dt)] [] { vals := [(false, [.d (.v (.bool (oneP p rs c ⟨k, tk, c.at_, dt⟩).isSome))])], ios := [repC p rs (oneD p rs c ⟨k, tk, c.at_, dt⟩)] } := by
 have w2 : w64 (c.round + 1) = c.round + 1 := w64_is (by omega)
 have eb : bump c = ⟨c.plan, c.at_, c.phase, c.replica, c.round + 1, c.token, c.mix⟩ := by unfold bump; rw [w2]
 have c1 : ¬ (k = 1 ∧ c.phase = 0) := fun a => by unfold oneP at hn; simp [a] at hn
 have c2 : ¬ (k = 2 ∧ (c.phase = 1 ∨ c.phase = 4)) := fun a => by obtain ⟨a1, a2⟩ := a; unfold oneP at hn; simp [a1, a2] at hn
 have c3 : ¬ (k = 3 ∧ c.phase = 1 ∧ (present c).kind = 1) := fun a => by unfold oneP at hn; simp [a] at hn
 have c4 : ¬ (k = 4 ∧ c.phase = 3) := fun a => by unfold oneP at hn; simp [a] at hn
 unfold oneD
 rw [hn]
 show FnSound _ _ _ _ { vals := [(false, [.d (.v (.bool false))])], ios := [repC p rs (if ¬ c.at_ = c.at_ then c else bump c)] }
 rw [if_neg (fun a => a rfl), eb]
 clear hn
 refine startO (tm := [(0, _), (1, _)]) [((0, 0), some (.st 90 (repC p rs c)))] Tryz.func29 rfl Tryz.ntmps29 rfl rfl rfl rfl ?_
 repeat' (first
 |(with_reducible refine rgn 9 900 ?_ ?_); exact rfl
 |(with_reducible refine rgn 10 1000 ?_ ?_); exact rfl
 |(with_reducible refine rgn 11 1100 ?_ ?_); exact rfl
 |(with_reducible refine rgn 12 1200 ?_ ?_); exact rfl
 |(with_reducible refine rgn 13 1300 ?_ ?_); exact rfl
 |(with_reducible refine rgn 14 1400 ?_ ?_); exact rfl
 |(with_reducible refine rgn 15 1500 ?_ ?_); exact rfl
 |(with_reducible refine rgn 16 1600 ?_ ?_); exact rfl
 |(with_reducible refine rgn 17 1700 ?_ ?_); exact rfl
 |(with_reducible refine rgn 18 1800 ?_ ?_); exact rfl
 |(with_reducible refine rgn 19 1900 ?_ ?_); exact rfl
 |(with_reducible refine rgn 20 2000 ?_ ?_); exact rfl
 |(with_reducible refine rgn 21 2100 ?_ ?_); exact rfl
 |(with_reducible refine rgn 22 2200 ?_ ?_); exact rfl
 |(with_reducible refine rgn 23 2300 ?_ ?_); exact rfl
 |(with_reducible refine rgn 24 2400 ?_ ?_); exact rfl
 |(with_reducible refine rgn 25 2500 ?_ ?_); exact rfl
 |(with_reducible refine rgn 8 2600 ?_ ?_); exact rfl
 |(with_reducible refine K_ca 59 ?_); refine zI (rstep_fn p rs c h0 hl) ?_
 |refine wA ?_
 |(refine wC ?_ ?_ <;> intro hc)
 |refine wB ?_ ?_
 |(with_reducible refine JL.block ?_)
 |(with_reducible refine FO_at ?_); refine eO (vs := [(_, _)]) Tryz.results29 ?_
 |exact oM
 |fail)
 all_goals first | (exfalso; omega) | kernel_rfl
end
end Go.Proofs.YtngjhkgcfabciaaGreat

namespace Go.Proofs.YtngjhkgcfabciaaGreat
open Go Go.RowKit
set_option maxRecDepth 100000
set_option maxHeartbeats 8000000
set_option linter.unusedSimpArgs false
set_option linter.unusedVariables false
section
variable (p : Prob) (rs : List Int) (c : CtlD) (k tk ix : Int) (dt : ByteArray)
theorem pone1 (h : CtlK p c) (hv : PlanV p c.plan) (hs : setErr p rs = 0) (hl : c.plan.length ≤ 1000000) (hrd : -1000000000 ≤ c.round ∧ c.round ≤ 1000000000) (hp : c.phase = 0) : FnSound Tryz.prog 29 [.io 90 (repC p rs c), .val true (entC 1 tk c.at_ dt)] [] { vals := [(false, [.d (.v (.bool (oneP p rs c ⟨1, tk, c.at_, dt⟩).isSome))])], ios := [repC p rs (oneD p rs c ⟨1, tk, c.at_, dt⟩)] } := by
 have w2 : w64 (c.round + 1) = c.round + 1 := w64_is (by omega)
 have eb : bump c = ⟨c.plan, c.at_, c.phase, c.replica, c.round + 1, c.token, c.mix⟩ := by unfold bump; rw [w2]
 have hc' : CtlK p ⟨c.plan, c.at_, c.phase, c.replica, c.round + 1, c.token, c.mix⟩ := h.round _
 have hbg := rbegins_fn p rs ⟨c.plan, c.at_, c.phase, c.replica, c.round + 1, c.token, c.mix⟩ hc' hv hs hp
 have e : oneP p rs c ⟨1, tk, c.at_, dt⟩ = some (beginR p rs ⟨c.plan, c.at_, c.phase, c.replica, c.round + 1, c.token, c.mix⟩) := by unfold oneP; simp [hp, eb]
 have h0 := h.rng
 unfold oneD
 rw [e]
 clear h hc' hv hs e
 refine startO (tm := [(0, _), (1, _)]) [((0, 0), some (.st 90 (repC p rs c)))] Tryz.func29 rfl Tryz.ntmps29 rfl rfl rfl rfl ?_
 repeat' (first
 |(with_reducible refine rgn 9 900 ?_ ?_); exact rfl
 |(with_reducible refine rgn 10 1000 ?_ ?_); exact rfl
 |(with_reducible refine rgn 11 1100 ?_ ?_); exact rfl
 |(with_reducible refine rgn 12 1200 ?_ ?_); exact rfl
 |(with_reducible refine rgn 13 1300 ?_ ?_); exact rfl
 |(with_reducible refine rgn 14 1400 ?_ ?_); exact rfl
 |(with_reducible refine rgn 15 1500 ?_ ?_); exact rfl
 |(with_reducible refine rgn 16 1600 ?_ ?_); exact rfl
 |(with_reducible refine rgn 17 1700 ?_ ?_); exact rfl
 |(with_reducible refine rgn 18 1800 ?_ ?_); exact rfl
 |(with_reducible refine rgn 19 1900 ?_ ?_); exact rfl
 |(with_reducible refine rgn 20 2000 ?_ ?_); exact rfl
 |(with_reducible refine rgn 21 2100 ?_ ?_); exact rfl
 |(with_reducible refine rgn 22 2200 ?_ ?_); exact rfl
 |(with_reducible refine rgn 23 2300 ?_ ?_); exact rfl
 |(with_reducible refine rgn 24 2400 ?_ ?_); exact rfl
 |(with_reducible refine rgn 25 2500 ?_ ?_); exact rfl
 |(with_reducible refine rgn 8 2600 ?_ ?_); exact rfl
 |(with_reducible refine K_ca 59 ?_); refine zI (rstep_fn p rs c h0 hl) ?_
 |(with_reducible refine K_ca 60 ?_); refine zI (hbg) ?_
 |refine wA ?_
 |(refine wC ?_ ?_ <;> intro hc)
 |refine wB ?_ ?_
 |(with_reducible refine JL.block ?_)
 |(with_reducible refine FO_at ?_); refine eO (vs := [(_, _)]) Tryz.results29 ?_
 |exact oM
 |fail)
 all_goals first | (exfalso; omega) | kernel_rfl
theorem pone2 (h : CtlK p c) (hv : PlanV p c.plan) (hl : c.plan.length ≤ 1000000) (hrd : -1000000000 ≤ c.round ∧ c.round ≤ 1000000000) (hp : c.phase = 1 ∨ c.phase = 4) : FnSound Tryz.prog 29 [.io 90 (repC p rs c), .val true (entC 2 tk c.at_ dt)] [] { vals := [(false, [.d (.v (.bool (oneP p rs c ⟨2, tk, c.at_, dt⟩).isSome))])], ios := [repC p rs (oneD p rs c ⟨2, tk, c.at_, dt⟩)] } := by
 have w2 : w64 (c.round + 1) = c.round + 1 := w64_is (by omega)
 have eb : bump c = ⟨c.plan, c.at_, c.phase, c.replica, c.round + 1, c.token, c.mix⟩ := by unfold bump; rw [w2]
 have hc' : CtlK p ⟨c.plan, c.at_, c.phase, c.replica, c.round + 1, c.token, c.mix⟩ := h.round _
 have hdn := rdones_fn p rs ⟨c.plan, c.at_, c.phase, c.replica, c.round + 1, c.token, c.mix⟩ hc' hv hl (by show ¬ c.phase = 6; omega)
 have e : oneP p rs c ⟨2, tk, c.at_, dt⟩ = some (doneR p ⟨c.plan, c.at_, c.phase, c.replica, c.round + 1, c.token, c.mix⟩) := by unfold oneP; simp [hp, eb]
 have h0 := h.rng
 unfold oneD
 rw [e]
 clear h hc' hv e
 refine startO (tm := [(0, _), (1, _)]) [((0, 0), some (.st 90 (repC p rs c)))] Tryz.func29 rfl Tryz.ntmps29 rfl rfl rfl rfl ?_
 repeat' (first
 |(with_reducible refine rgn 9 900 ?_ ?_); exact rfl
 |(with_reducible refine rgn 10 1000 ?_ ?_); exact rfl
 |(with_reducible refine rgn 11 1100 ?_ ?_); exact rfl
 |(with_reducible refine rgn 12 1200 ?_ ?_); exact rfl
 |(with_reducible refine rgn 13 1300 ?_ ?_); exact rfl
 |(with_reducible refine rgn 14 1400 ?_ ?_); exact rfl
 |(with_reducible refine rgn 15 1500 ?_ ?_); exact rfl
 |(with_reducible refine rgn 16 1600 ?_ ?_); exact rfl
 |(with_reducible refine rgn 17 1700 ?_ ?_); exact rfl
 |(with_reducible refine rgn 18 1800 ?_ ?_); exact rfl
 |(with_reducible refine rgn 19 1900 ?_ ?_); exact rfl
 |(with_reducible refine rgn 20 2000 ?_ ?_); exact rfl
 |(with_reducible refine rgn 21 2100 ?_ ?_); exact rfl
 |(with_reducible refine rgn 22 2200 ?_ ?_); exact rfl
 |(with_reducible refine rgn 23 2300 ?_ ?_); exact rfl
 |(with_reducible refine rgn 24 2400 ?_ ?_); exact rfl
 |(with_reducible refine rgn 25 2500 ?_ ?_); exact rfl
 |(with_reducible refine rgn 8 2600 ?_ ?_); exact rfl
 |(with_reducible refine K_ca 59 ?_); refine zI (rstep_fn p rs c h0 hl) ?_
 |(with_reducible refine K_ca 61 ?_); refine zI (hdn) ?_
 |refine wA ?_
 |(refine wC ?_ ?_ <;> intro hc)
 |refine wB ?_ ?_
 |(with_reducible refine JL.block ?_)
 |(with_reducible refine FO_at ?_); refine eO (vs := [(_, _)]) Tryz.results29 ?_
 |exact oM
 |fail)
 all_goals first | (exfalso; omega) | kernel_rfl
theorem pone3 (h : CtlK p c) (hl : c.plan.length ≤ 1000000) (hrd : -1000000000 ≤ c.round ∧ c.round ≤ 1000000000) (hp : c.phase = 1) (hk : (present c).kind = 1) : FnSound Tryz.prog 29 [.io 90 (repC p rs c), .val true (entC 3 tk c.at_ dt)] [] { vals := [(false, [.d (.v (.bool (oneP p rs c ⟨3, tk, c.at_, dt⟩).isSome))])], ios := [repC p rs (oneD p rs c ⟨3, tk, c.at_, dt⟩)] } := by
 have w2 : w64 (c.round + 1) = c.round + 1 := w64_is (by omega)
 have eb : bump c = ⟨c.plan, c.at_, c.phase, c.replica, c.round + 1, c.token, c.mix⟩ := by unfold bump; rw [w2]
 have e : oneP p rs c ⟨3, tk, c.at_, dt⟩ = some ⟨c.plan, c.at_, 3, c.replica, c.round + 1, c.token, c.mix⟩ := by unfold oneP; simp [hp, hk, eb]
 have h0 := h.rng
 unfold oneD
 rw [e]
 clear h e
 refine startO (tm := [(0, _), (1, _)]) [((0, 0), some (.st 90 (repC p rs c)))] Tryz.func29 rfl Tryz.ntmps29 rfl rfl rfl rfl ?_
 repeat' (first
 |(with_reducible refine rgn 9 900 ?_ ?_); exact rfl
 |(with_reducible refine rgn 10 1000 ?_ ?_); exact rfl
 |(with_reducible refine rgn 11 1100 ?_ ?_); exact rfl
 |(with_reducible refine rgn 12 1200 ?_ ?_); exact rfl
 |(with_reducible refine rgn 13 1300 ?_ ?_); exact rfl
 |(with_reducible refine rgn 14 1400 ?_ ?_); exact rfl
 |(with_reducible refine rgn 15 1500 ?_ ?_); exact rfl
 |(with_reducible refine rgn 16 1600 ?_ ?_); exact rfl
 |(with_reducible refine rgn 17 1700 ?_ ?_); exact rfl
 |(with_reducible refine rgn 18 1800 ?_ ?_); exact rfl
 |(with_reducible refine rgn 19 1900 ?_ ?_); exact rfl
 |(with_reducible refine rgn 20 2000 ?_ ?_); exact rfl
 |(with_reducible refine rgn 21 2100 ?_ ?_); exact rfl
 |(with_reducible refine rgn 22 2200 ?_ ?_); exact rfl
 |(with_reducible refine rgn 23 2300 ?_ ?_); exact rfl
 |(with_reducible refine rgn 24 2400 ?_ ?_); exact rfl
 |(with_reducible refine rgn 25 2500 ?_ ?_); exact rfl
 |(with_reducible refine rgn 8 2600 ?_ ?_); exact rfl
 |(with_reducible refine K_ca 59 ?_); refine zI (rstep_fn p rs c h0 hl) ?_
 |refine wA ?_
 |(refine wC ?_ ?_ <;> intro hc)
 |refine wB ?_ ?_
 |(with_reducible refine JL.block ?_)
 |(with_reducible refine FO_at ?_); refine eO (vs := [(_, _)]) Tryz.results29 ?_
 |exact oM
 |fail)
 all_goals first | (exfalso; omega) | kernel_rfl
theorem pone4 (h : CtlK p c) (hv : PlanV p c.plan) (hl : c.plan.length ≤ 1000000) (hrd : -1000000000 ≤ c.round ∧ c.round ≤ 1000000000) (hp : c.phase = 3) : FnSound Tryz.prog 29 [.io 90 (repC p rs c), .val true (entC 4 tk c.at_ dt)] [] { vals := [(false, [.d (.v (.bool (oneP p rs c ⟨4, tk, c.at_, dt⟩).isSome))])], ios := [repC p rs (oneD p rs c ⟨4, tk, c.at_, dt⟩)] } := by
 have w2 : w64 (c.round + 1) = c.round + 1 := w64_is (by omega)
 have eb : bump c = ⟨c.plan, c.at_, c.phase, c.replica, c.round + 1, c.token, c.mix⟩ := by unfold bump; rw [w2]
 have hix := h.idx (by omega) (by have := (h.ph2 (.inr hp)).1; omega)
 have hab := abort_ok (p := p) (i := (present c).idx) ⟨hix.1, hix.2.1⟩
 have ha := rafter_fn p c.mix ⟨4, (present c).idx, 0⟩ h.g.u
 rw [apply_is (h.valid hv) hab.1 hab.2] at ha
 have e : oneP p rs c ⟨4, tk, c.at_, dt⟩ = some ⟨c.plan, c.at_, 0, 0, c.round + 1, c.token, afterM p c.mix ⟨4, (present c).idx, 0⟩⟩ := by unfold oneP; simp [hp, eb]; rfl
 have h0 := h.rng
 unfold oneD
 rw [e]
 clear h hv hix hab e
 refine startO (tm := [(0, _), (1, _)]) [((0, 0), some (.st 90 (repC p rs c)))] Tryz.func29 rfl Tryz.ntmps29 rfl rfl rfl rfl ?_
 repeat' (first
 |(with_reducible refine rgn 9 900 ?_ ?_); exact rfl
 |(with_reducible refine rgn 10 1000 ?_ ?_); exact rfl
 |(with_reducible refine rgn 11 1100 ?_ ?_); exact rfl
 |(with_reducible refine rgn 12 1200 ?_ ?_); exact rfl
 |(with_reducible refine rgn 13 1300 ?_ ?_); exact rfl
 |(with_reducible refine rgn 14 1400 ?_ ?_); exact rfl
 |(with_reducible refine rgn 15 1500 ?_ ?_); exact rfl
 |(with_reducible refine rgn 16 1600 ?_ ?_); exact rfl
 |(with_reducible refine rgn 17 1700 ?_ ?_); exact rfl
 |(with_reducible refine rgn 18 1800 ?_ ?_); exact rfl
 |(with_reducible refine rgn 19 1900 ?_ ?_); exact rfl
 |(with_reducible refine rgn 20 2000 ?_ ?_); exact rfl
 |(with_reducible refine rgn 21 2100 ?_ ?_); exact rfl
 |(with_reducible refine rgn 22 2200 ?_ ?_); exact rfl
 |(with_reducible refine rgn 23 2300 ?_ ?_); exact rfl
 |(with_reducible refine rgn 24 2400 ?_ ?_); exact rfl
 |(with_reducible refine rgn 25 2500 ?_ ?_); exact rfl
 |(with_reducible refine rgn 8 2600 ?_ ?_); exact rfl
 |(with_reducible refine K_ca 59 ?_); refine zI (rstep_fn p rs c h0 hl) ?_
 |(with_reducible refine K_ca 62 ?_); refine zC (ha) ?_
 |refine wA ?_
 |(refine wC ?_ ?_ <;> intro hc)
 |refine wB ?_ ?_
 |(with_reducible refine JL.block ?_)
 |(with_reducible refine FO_at ?_); refine eO (vs := [(_, _)]) Tryz.results29 ?_
 |exact oM
 |fail)
 all_goals first | (exfalso; omega) | kernel_rfl
end
theorem pone_fn (p : Prob) (rs : List Int) (c : CtlD) (x : EntD) (h : CtlK p c) (hv : PlanV p c.plan) (hs : setErr p rs = 0) (hl : c.plan.length ≤ 1000000) (hrd : -1000000000 ≤ c.round ∧ c.round ≤ 1000000000) : FnSound Tryz.prog 29 [.io 90 (repC p rs c), .val true ((entRow x).map .d)] [] { vals := [(false, [.d (.v (.bool (oneP p rs c x).isSome))])], ios := [repC p rs (oneD p rs c x)] } := by
 obtain ⟨k, tk, ix, dt⟩ := x
 by_cases k5 : k = 5
 ·subst k5; exact pone5 p rs c tk ix dt
 by_cases hi : ix = c.at_
 ·subst hi
  by_cases c1 : k = 1 ∧ c.phase = 0
  ·obtain ⟨rfl, hp⟩ := c1; exact pone1 p rs c tk dt h hv hs hl hrd hp
  by_cases c2 : k = 2 ∧ (c.phase = 1 ∨ c.phase = 4)
  ·obtain ⟨rfl, hp⟩ := c2; exact pone2 p rs c tk dt h hv hl hrd hp
  by_cases c3 : k = 3 ∧ c.phase = 1 ∧ (present c).kind = 1
  ·obtain ⟨rfl, hp, hk⟩ := c3; exact pone3 p rs c tk dt h hl hrd hp hk
  by_cases c4 : k = 4 ∧ c.phase = 3
  ·obtain ⟨rfl, hp⟩ := c4; exact pone4 p rs c tk dt h hv hl hrd hp
  refine poneF p rs c k tk dt h.rng hl hrd k5 ?_
  unfold oneP
  simp only [k5, if_false, not_true_eq_false, c1, c2, c3, c4]
 ·exact poneN p rs c k tk ix dt h.rng hl k5 hi
end Go.Proofs.YtngjhkgcfabciaaGreat

namespace Go.Proofs.YtngjhkgcfabciaaGreat
open Go Go.RowKit
set_option maxRecDepth 100000
set_option maxHeartbeats 8000000
set_option linter.unusedSimpArgs false
set_option linter.unusedVariables false
theorem preplay_fn (p : Prob) (rs : List Int) (l : List StepD) (es : List EntD) (hs : setErr p rs = 0) (hc0 : checkP p l = true) (hl : l.length ≤ 1000000) (he : es.length ≤ 2000) : FnSound Tryz.prog 13 [.val true (probC p), .val false [.d (.sl 1 (dInts rs))], .val false [.d (.sl 3 (dSteps l))], .val false [.d (.sl 4 (dEnts es))]] [] { vals := [(true, ctlC (replayP p rs l es).1), (false, [.d (.v (.int .i64 (replayP p rs l es).2))])] } := by
 obtain ⟨n1, n2, n3, n4⟩ := newP_k hs hc0
 have hnf := pnew_fn p rs l hs hc0 hl
 have hv := planV_of (setErr_ok hs).1 hc0
 have e : replayP p rs l es = replayL p rs (newP p rs l).1 es := by unfold replayP; rw [if_neg (by simpa using n4)]
 rw [e]
 generalize (newP p rs l).1 = c0 at hnf n1 n2 n3 ⊢
 refine startW (tm := [(0, _), (1, _), (2, _), (3, _)]) Tryz.func13 rfl Tryz.ntmps13 rfl rfl rfl rfl ?_
 repeat' (first
 |(with_reducible refine K_ca 28 ?_); refine zC (hnf) ?_
 |(with_reducible refine K_ca 29 ?_); refine zI (pone_fn p rs y.2 (es.getD y.1 nilE) hy.2.1 (by rw [hy.2.2.1]; exact hv) hs (by rw [hy.2.2.1]; exact hl) (by omega)) ?_
 |(with_reducible refine blk_at (id := 0) ?_); ((with_reducible refine JL.loopW 0 699 (fun (y : Nat × CtlD) tm => (33, .one false [.d (.v (.int .i64 ((y.1 : Int))))]) :: tm) (fun (y : Nat × CtlD) bo => ((256, 500), some (.st 90 [.d (.sl 1 ((dInts p.vs))), .d (.sl 1 ((dInts p.now))), .d (.sl 1 ((dInts p.tgt))), .d (.sl 6 ((dTabs p.tabs))), .d (.sl 1 ((dInts rs))), .d (.sl 3 ((dSteps y.2.plan))), .d (.v (.int .i64 (y.2.at_))), .d (.v (.int .i64 (y.2.phase))), .d (.v (.int .i64 (y.2.replica))), .d (.v (.int .i64 (y.2.round))), .d (.v (.int .i64 (y.2.token))), .d (.sl 1 ((dInts y.2.mix.base))), .d (.sl 1 ((dInts y.2.mix.next))), .d (.sl 1 ((dSets y.2.mix.held)))])) :: bo) (fun (y : Nat × CtlD) => y.1 ≤ es.length ∧ CtlK p y.2 ∧ y.2.plan = l ∧ (0 ≤ y.2.round ∧ y.2.round ≤ y.1) ∧ replayL p rs y.2 (es.drop y.1) = replayL p rs c0 es) (fun (y : Nat × CtlD) => es.length - y.1) ((0, c0)) ?_ (fun y hy => ?_) ?_); (focus (apply SubW [] rfl ?_ ?_ rfl ?_; (repeat' (first | exact kA | refine kB ?_ | refine kC ?_ ?_ | exact kD | fail)))))
 |((with_reducible refine round_next (i := y) ((y.1 + 1, oneD p rs y.2 (es.getD y.1 nilE))) ?_ ?_ ?_); (focus (apply SubW [] rfl ?_ ?_ rfl ?_; (repeat' (first | exact kA | refine kB ?_ | refine kC ?_ ?_ | exact kD | fail)))))
 |refine wA ?_
 |(refine wC ?_ ?_ <;> intro hc)
 |refine wB ?_ ?_
 |(with_reducible refine JL.block ?_)
 |(with_reducible refine F_at ?_); refine eW (vs := [(_, _), (_, _)]) Tryz.results13 ?_; (focus (repeat' (first | exact oA | refine oB ?_ | refine oC ?_ ?_ | fail)))
 |exact oM
 |fail)
 all_goals first
  | rfl
  | (rw [replay_err (k := y.1) (by omega) hy.2.2.2.2 (by simpa using hc)] <;> rfl)
  | (have hn := replay_next (k := y.1) (by omega) hy.2.2.2.2 (by simpa using hc); have hi := replay_inv hy.2.1 hy.2.2.1 hl hy.2.2.2.1 (by omega) hn.2; exact ⟨by dsimp only; omega, hi.1, hi.2.1, hi.2.2, hn.1⟩)
  | (rw [← hy.2.2.2.2, List.drop_eq_nil_of_le (by omega)] <;> rfl)
  | exact ⟨Nat.zero_le _, n1, n2, by dsimp only; omega, rfl⟩
  | trace_state
end Go.Proofs.YtngjhkgcfabciaaGreat

