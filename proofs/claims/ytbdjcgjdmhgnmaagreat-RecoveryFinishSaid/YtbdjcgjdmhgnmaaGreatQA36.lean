/- Rules of runs and contracts of functions, for the claims of one seat. -/
import Derived.Test.YtbdjcgjdmhgnmaaGreatQA14
import Derived.Test.YtbdjcgjdmhgnmaaGreatQA23
import Derived.Test.YtbdjcgjdmhgnmaaGreatQA31
import Derived.Test.YtbdjcgjdmhgnmaaGreatQA35
namespace Go.Proofs.YtbdjcgjdmhgnmaaGreat
open Go Go.RowKit
set_option maxRecDepth 100000
set_option maxHeartbeats 8000000
set_option linter.unusedSimpArgs false
set_option linter.unusedVariables false
theorem rbegins_fn (p : Prob) (rs : List Int) (c : CtlD) (h : CtlK p c) (hv : PlanV p c.plan) (hs : setErr p rs = 0) (hp : c.phase = 0) : FnSound Tryz.prog 60 [.io 83 (repC p rs c), .val true (stepC (present c))] [] { vals := [], ios := [repC p rs (beginR p rs c)] } := by
 by_cases k3 : (present c).kind = 3
 ·exact rbegin3 p rs c k3
 ·by_cases k1 : (present c).kind = 1
  ·exact rbegin1 p rs c h hv hs hp k1
  ·exact rbegin2 p rs c h hs hp k3 k1
theorem rdones_fn (p : Prob) (rs : List Int) (c : CtlD) (h : CtlK p c) (hv : PlanV p c.plan) (hl : c.plan.length ≤ 1000000) (hp : ¬ c.phase = 6) : FnSound Tryz.prog 61 [.io 83 (repC p rs c), .val true (stepC (present c))] [] { vals := [], ios := [repC p rs (doneR p c)] } := by
 have hr := h.rng
 have hlt := h.lt hp
 have hok := h.stepOK hp
 have ha := rafter_fn p c.mix (present c) h.g.u
 rw [apply_is (h.valid hv) hok.1 hok.2] at ha
 have w1 : w64 (c.at_ + 1) = c.at_ + 1 := w64_is (by omega)
 clear hok
 by_cases hk : (present c).kind = 1
 ·by_cases hq : c.at_ + 1 = c.plan.length
  ·have e : doneR p c = ⟨c.plan, c.at_ + 1, 6, 0, c.round, c.token, c.mix⟩ := by unfold doneR; rw [w1, if_pos hq, if_neg (fun a => a hk)]
   rw [e]
   refine startO (tm := [(0, _), (1, _)]) [((0, 0), some (.st 83 (repC p rs c)))] Tryz.func61 rfl Tryz.ntmps61 rfl rfl rfl rfl ?_
   repeat' (first
 |refine wA ?_
 |(refine wC ?_ ?_ <;> intro hc)
 |refine wB ?_ ?_
 |(with_reducible refine JL.block ?_)
 |(with_reducible refine FO_at ?_); refine eO (vs := []) Tryz.results61 ?_
 |exact oM
 |fail)
   all_goals first | (exfalso; omega) | kernel_rfl
  ·have e : doneR p c = ⟨c.plan, c.at_ + 1, 0, 0, c.round, c.token, c.mix⟩ := by unfold doneR; rw [w1, if_neg hq, if_neg (fun a => a hk)]
   rw [e]
   refine startO (tm := [(0, _), (1, _)]) [((0, 0), some (.st 83 (repC p rs c)))] Tryz.func61 rfl Tryz.ntmps61 rfl rfl rfl rfl ?_
   repeat' (first
 |refine wA ?_
 |(refine wC ?_ ?_ <;> intro hc)
 |refine wB ?_ ?_
 |(with_reducible refine JL.block ?_)
 |(with_reducible refine FO_at ?_); refine eO (vs := []) Tryz.results61 ?_
 |exact oM
 |fail)
   all_goals first | (exfalso; omega) | kernel_rfl
 ·by_cases hq : c.at_ + 1 = c.plan.length
  ·have e : doneR p c = ⟨c.plan, c.at_ + 1, 6, 0, c.round, c.token, afterM p c.mix (present c)⟩ := by unfold doneR; rw [w1, if_pos hq, if_pos hk]
   rw [e]
   refine startO (tm := [(0, _), (1, _)]) [((0, 0), some (.st 83 (repC p rs c)))] Tryz.func61 rfl Tryz.ntmps61 rfl rfl rfl rfl ?_
   repeat' (first
 |(with_reducible refine K_ca 45 ?_); refine zC (ha) ?_
 |refine wA ?_
 |(refine wC ?_ ?_ <;> intro hc)
 |refine wB ?_ ?_
 |(with_reducible refine JL.block ?_)
 |(with_reducible refine FO_at ?_); refine eO (vs := []) Tryz.results61 ?_
 |exact oM
 |fail)
   all_goals first | (exfalso; omega) | kernel_rfl
  ·have e : doneR p c = ⟨c.plan, c.at_ + 1, 0, 0, c.round, c.token, afterM p c.mix (present c)⟩ := by unfold doneR; rw [w1, if_neg hq, if_pos hk]
   rw [e]
   refine startO (tm := [(0, _), (1, _)]) [((0, 0), some (.st 83 (repC p rs c)))] Tryz.func61 rfl Tryz.ntmps61 rfl rfl rfl rfl ?_
   repeat' (first
 |(with_reducible refine K_ca 45 ?_); refine zC (ha) ?_
 |refine wA ?_
 |(refine wC ?_ ?_ <;> intro hc)
 |refine wB ?_ ?_
 |(with_reducible refine JL.block ?_)
 |(with_reducible refine FO_at ?_); refine eO (vs := []) Tryz.results61 ?_
 |exact oM
 |fail)
   all_goals first | (exfalso; omega) | kernel_rfl
section
variable (p : Prob) (rs : List Int) (c : CtlD) (k tk ix : Int) (dt : ByteArray)
def entC (k tk ix : Int) (dt : ByteArray) : List C := [.d (.v (.int .i64 k)), .d (.v (.int .i64 tk)), .d (.v (.int .i64 ix)), .d (.v (.string dt))]
theorem pone5 : FnSound Tryz.prog 28 [.io 83 (repC p rs c), .val true (entC 5 tk ix dt)] [] { vals := [(false, [.d (.v (.bool (oneP p rs c ⟨5, tk, ix, dt⟩).isSome))])], ios := [repC p rs (oneD p rs c ⟨5, tk, ix, dt⟩)] } := by
 have e : oneP p rs c ⟨5, tk, ix, dt⟩ = some c := by unfold oneP; simp
 unfold oneD
 rw [e]
 refine startO (tm := [(0, _), (1, _)]) [((0, 0), some (.st 83 (repC p rs c)))] Tryz.func28 rfl Tryz.ntmps28 rfl rfl rfl rfl ?_
 repeat' (first
 |(with_reducible refine rgn 9 900 ?_ ?_); exact rfl
 |(with_reducible refine rgn 10 1000 ?_ ?_); exact rfl
 |(with_reducible refine rgn 11 1100 ?_ ?_); exact rfl
 |(with_reducible refine rgn 12 1200 ?_ ?_); exact rfl
 |(with_reducible refine rgn 13 1300 ?_ ?_); exact rfl
 |(with_reducible refine rgn 14 1400 ?_ ?_); exact rfl
 |(with_reducible refine rgn 15 1500 ?_ ?_); exact rfl
 |(with_reducible refine rgn 16 1600 ?_ ?_); exact rfl
 |(with_reducible refine rgn 17 1700 ?_ ?_); exact rfl
 |(with_reducible refine rgn 18 1800 ?_ ?_); exact rfl
 |(with_reducible refine rgn 19 1900 ?_ ?_); exact rfl
 |(with_reducible refine rgn 20 2000 ?_ ?_); exact rfl
 |(with_reducible refine rgn 21 2100 ?_ ?_); exact rfl
 |(with_reducible refine rgn 22 2200 ?_ ?_); exact rfl
 |(with_reducible refine rgn 23 2300 ?_ ?_); exact rfl
 |(with_reducible refine rgn 24 2400 ?_ ?_); exact rfl
 |(with_reducible refine rgn 25 2500 ?_ ?_); exact rfl
 |(with_reducible refine rgn 8 2600 ?_ ?_); exact rfl
 |refine wA ?_
 |(refine wC ?_ ?_ <;> intro hc)
 |refine wB ?_ ?_
 |(with_reducible refine JL.block ?_)
 |(with_reducible refine FO_at ?_); refine eO (vs := [(_, _)]) Tryz.results28 ?_
 |exact oM
 |fail)
 all_goals first | (exfalso; omega) | kernel_rfl
theorem poneN (h0 : 0 ≤ c.at_ ∧ c.at_ ≤ c.plan.length) (hl : c.plan.length ≤ 1000000) (hk : ¬ k = 5) (hi : ¬ ix = c.at_) : FnSound Tryz.prog 28 [.io 83 (repC p rs c), .val true (entC k tk ix dt)] [] { vals := [(false, [.d (.v (.bool (oneP p rs c ⟨k, tk, ix, dt⟩).isSome))])], ios := [repC p rs (oneD p rs c ⟨k, tk, ix, dt⟩)] } := by
 have e : oneP p rs c ⟨k, tk, ix, dt⟩ = none := by unfold oneP; simp [hk, hi]
 unfold oneD
 rw [e]
 show FnSound _ _ _ _ { vals := [(false, [.d (.v (.bool false))])], ios := [repC p rs (if ¬ ix = c.at_ then c else bump c)] }
 rw [if_pos hi]
 refine startO (tm := [(0, _), (1, _)]) [((0, 0), some (.st 83 (repC p rs c)))] Tryz.func28 rfl Tryz.ntmps28 rfl rfl rfl rfl ?_
 repeat' (first
 |(with_reducible refine rgn 9 900 ?_ ?_); exact rfl
 |(with_reducible refine rgn 10 1000 ?_ ?_); exact rfl
 |(with_reducible refine rgn 11 1100 ?_ ?_); exact rfl
 |(with_reducible refine rgn 12 1200 ?_ ?_); exact rfl
 |(with_reducible refine rgn 13 1300 ?_ ?_); exact rfl
 |(with_reducible refine rgn 14 1400 ?_ ?_); exact rfl
 |(with_reducible refine rgn 15 1500 ?_ ?_); exact rfl
 |(with_reducible refine rgn 16 1600 ?_ ?_); exact rfl
 |(with_reducible refine rgn 17 1700 ?_ ?_); exact rfl
 |(with_reducible refine rgn 18 1800 ?_ ?_); exact rfl
 |(with_reducible refine rgn 19 1900 ?_ ?_); exact rfl
 |(with_reducible refine rgn 20 2000 ?_ ?_); exact rfl
 |(with_reducible refine rgn 21 2100 ?_ ?_); exact rfl
 |(with_reducible refine rgn 22 2200 ?_ ?_); exact rfl
 |(with_reducible refine rgn 23 2300 ?_ ?_); exact rfl
 |(with_reducible refine rgn 24 2400 ?_ ?_); exact rfl
 |(with_reducible refine rgn 25 2500 ?_ ?_); exact rfl
 |(with_reducible refine rgn 8 2600 ?_ ?_); exact rfl
 |(with_reducible refine K_ca 59 ?_); refine zI (rstep_fn p rs c h0 hl) ?_
 |refine wA ?_
 |(refine wC ?_ ?_ <;> intro hc)
 |refine wB ?_ ?_
 |(with_reducible refine JL.block ?_)
 |(with_reducible refine FO_at ?_); refine eO (vs := [(_, _)]) Tryz.results28 ?_
 |exact oM
 |fail)
 all_goals first | (exfalso; omega) | kernel_rfl
theorem poneF (h0 : 0 ≤ c.at_ ∧ c.at_ ≤ c.plan.length) (hl : c.plan.length ≤ 1000000) (hrd : -1000000000 ≤ c.round ∧ c.round ≤ 1000000000) (hk : ¬ k = 5) (hn : oneP p rs c ⟨k, tk, c.at_, dt⟩ = none) : FnSound Tryz.prog 28 [.io 83 (repC p rs c), .val true (entC k tk c.at_ dt)] [] { vals := [(false, [.d (.v (.bool (oneP p rs c ⟨k, tk, c.at_, dt⟩).isSome))])], ios := [repC p rs (oneD p rs c ⟨k, tk, c.at_, dt⟩)] } := by
 have w2 : w64 (c.round + 1) = c.round + 1 := w64_is (by omega)
 have eb : bump c = ⟨c.plan, c.at_, c.phase, c.replica, c.round + 1, c.token, c.mix⟩ := by unfold bump; rw [w2]
 have c1 : ¬ (k = 1 ∧ c.phase = 0) := fun a => by unfold oneP at hn; simp [a] at hn
 have c2 : ¬ (k = 2 ∧ (c.phase = 1 ∨ c.phase = 4)) := fun a => by obtain ⟨a1, a2⟩ := a; unfold oneP at hn; simp [a1, a2] at hn
 have c3 : ¬ (k = 3 ∧ c.phase = 1 ∧ (present c).kind = 1) := fun a => by unfold oneP at hn; simp [a] at hn
 have c4 : ¬ (k = 4 ∧ c.phase = 3) := fun a => by unfold oneP at hn; simp [a] at hn
 unfold oneD
 rw [hn]
 show FnSound _ _ _ _ { vals := [(false, [.d (.v (.bool false))])], ios := [repC p rs (if ¬ c.at_ = c.at_ then c else bump c)] }
 rw [if_neg (fun a => a rfl), eb]
 clear hn
 refine startO (tm := [(0, _), (1, _)]) [((0, 0), some (.st 83 (repC p rs c)))] Tryz.func28 rfl Tryz.ntmps28 rfl rfl rfl rfl ?_
 repeat' (first
 |(with_reducible refine rgn 9 900 ?_ ?_); exact rfl
 |(with_reducible refine rgn 10 1000 ?_ ?_); exact rfl
 |(with_reducible refine rgn 11 1100 ?_ ?_); exact rfl
 |(with_reducible refine rgn 12 1200 ?_ ?_); exact rfl
 |(with_reducible refine rgn 13 1300 ?_ ?_); exact rfl
 |(with_reducible refine rgn 14 1400 ?_ ?_); exact rfl
 |(with_reducible refine rgn 15 1500 ?_ ?_); exact rfl
 |(with_reducible refine rgn 16 1600 ?_ ?_); exact rfl
 |(with_reducible refine rgn 17 1700 ?_ ?_); exact rfl
 |(with_reducible refine rgn 18 1800 ?_ ?_); exact rfl
 |(with_reducible refine rgn 19 1900 ?_ ?_); exact rfl
 |(with_reducible refine rgn 20 2000 ?_ ?_); exact rfl
 |(with_reducible refine rgn 21 2100 ?_ ?_); exact rfl
 |(with_reducible refine rgn 22 2200 ?_ ?_); exact rfl
 |(with_reducible refine rgn 23 2300 ?_ ?_); exact rfl
 |(with_reducible refine rgn 24 2400 ?_ ?_); exact rfl
 |(with_reducible refine rgn 25 2500 ?_ ?_); exact rfl
 |(with_reducible refine rgn 8 2600 ?_ ?_); exact rfl
 |(with_reducible refine K_ca 59 ?_); refine zI (rstep_fn p rs c h0 hl) ?_
 |refine wA ?_
 |(refine wC ?_ ?_ <;> intro hc)
 |refine wB ?_ ?_
 |(with_reducible refine JL.block ?_)
 |(with_reducible refine FO_at ?_); refine eO (vs := [(_, _)]) Tryz.results28 ?_
 |exact oM
 |fail)
 all_goals first | (exfalso; omega) | kernel_rfl
end
end Go.Proofs.YtbdjcgjdmhgnmaaGreat

namespace Go.Proofs.YtbdjcgjdmhgnmaaGreat
open Go Go.RowKit
set_option maxRecDepth 100000
set_option maxHeartbeats 8000000
set_option linter.unusedSimpArgs false
set_option linter.unusedVariables false
section
variable (p : Prob) (rs : List Int) (c : CtlD) (k tk ix : Int) (dt : ByteArray)
theorem pone1 (h : CtlK p c) (hv : PlanV p c.plan) (hs : setErr p rs = 0) (hl : c.plan.length ≤ 1000000) (hrd : -1000000000 ≤ c.round ∧ c.round ≤ 1000000000) (hp : c.phase = 0) : FnSound Tryz.prog 28 [.io 83 (repC p rs c), .val true (entC 1 tk c.at_ dt)] [] { vals := [(false, [.d (.v (.bool (oneP p rs c ⟨1, tk, c.at_, dt⟩).isSome))])], ios := [repC p rs (oneD p rs c ⟨1, tk, c.at_, dt⟩)] } := by
 have w2 : w64 (c.round + 1) = c.round + 1 := w64_is (by omega)
 have eb : bump c = ⟨c.plan, c.at_, c.phase, c.replica, c.round + 1, c.token, c.mix⟩ := by unfold bump; rw [w2]
 have hc' : CtlK p ⟨c.plan, c.at_, c.phase, c.replica, c.round + 1, c.token, c.mix⟩ := h.round _
 have hbg := rbegins_fn p rs ⟨c.plan, c.at_, c.phase, c.replica, c.round + 1, c.token, c.mix⟩ hc' hv hs hp
 have e : oneP p rs c ⟨1, tk, c.at_, dt⟩ = some (beginR p rs ⟨c.plan, c.at_, c.phase, c.replica, c.round + 1, c.token, c.mix⟩) := by unfold oneP; simp [hp, eb]
 have h0 := h.rng
 unfold oneD
 rw [e]
 clear h hc' hv hs e
 refine startO (tm := [(0, _), (1, _)]) [((0, 0), some (.st 83 (repC p rs c)))] Tryz.func28 rfl Tryz.ntmps28 rfl rfl rfl rfl ?_
 repeat' (first
 |(with_reducible refine rgn 9 900 ?_ ?_); exact rfl
 |(with_reducible refine rgn 10 1000 ?_ ?_); exact rfl
 |(with_reducible refine rgn 11 1100 ?_ ?_); exact rfl
 |(with_reducible refine rgn 12 1200 ?_ ?_); exact rfl
 |(with_reducible refine rgn 13 1300 ?_ ?_); exact rfl
 |(with_reducible refine rgn 14 1400 ?_ ?_); exact rfl
 |(with_reducible refine rgn 15 1500 ?_ ?_); exact rfl
 |(with_reducible refine rgn 16 1600 ?_ ?_); exact rfl
 |(with_reducible refine rgn 17 1700 ?_ ?_); exact rfl
 |(with_reducible refine rgn 18 1800 ?_ ?_); exact rfl
 |(with_reducible refine rgn 19 1900 ?_ ?_); exact rfl
 |(with_reducible refine rgn 20 2000 ?_ ?_); exact rfl
 |(with_reducible refine rgn 21 2100 ?_ ?_); exact rfl
 |(with_reducible refine rgn 22 2200 ?_ ?_); exact rfl
 |(with_reducible refine rgn 23 2300 ?_ ?_); exact rfl
 |(with_reducible refine rgn 24 2400 ?_ ?_); exact rfl
 |(with_reducible refine rgn 25 2500 ?_ ?_); exact rfl
 |(with_reducible refine rgn 8 2600 ?_ ?_); exact rfl
 |(with_reducible refine K_ca 59 ?_); refine zI (rstep_fn p rs c h0 hl) ?_
 |(with_reducible refine K_ca 60 ?_); refine zI (hbg) ?_
 |refine wA ?_
 |(refine wC ?_ ?_ <;> intro hc)
 |refine wB ?_ ?_
 |(with_reducible refine JL.block ?_)
 |(with_reducible refine FO_at ?_); refine eO (vs := [(_, _)]) Tryz.results28 ?_
 |exact oM
 |fail)
 all_goals first | (exfalso; omega) | kernel_rfl
theorem pone2 (h : CtlK p c) (hv : PlanV p c.plan) (hl : c.plan.length ≤ 1000000) (hrd : -1000000000 ≤ c.round ∧ c.round ≤ 1000000000) (hp : c.phase = 1 ∨ c.phase = 4) : FnSound Tryz.prog 28 [.io 83 (repC p rs c), .val true (entC 2 tk c.at_ dt)] [] { vals := [(false, [.d (.v (.bool (oneP p rs c ⟨2, tk, c.at_, dt⟩).isSome))])], ios := [repC p rs (oneD p rs c ⟨2, tk, c.at_, dt⟩)] } := by
 have w2 : w64 (c.round + 1) = c.round + 1 := w64_is (by omega)
 have eb : bump c = ⟨c.plan, c.at_, c.phase, c.replica, c.round + 1, c.token, c.mix⟩ := by unfold bump; rw [w2]
 have hc' : CtlK p ⟨c.plan, c.at_, c.phase, c.replica, c.round + 1, c.token, c.mix⟩ := h.round _
 have hdn := rdones_fn p rs ⟨c.plan, c.at_, c.phase, c.replica, c.round + 1, c.token, c.mix⟩ hc' hv hl (by show ¬ c.phase = 6; omega)
 have e : oneP p rs c ⟨2, tk, c.at_, dt⟩ = some (doneR p ⟨c.plan, c.at_, c.phase, c.replica, c.round + 1, c.token, c.mix⟩) := by unfold oneP; simp [hp, eb]
 have h0 := h.rng
 unfold oneD
 rw [e]
 clear h hc' hv e
 refine startO (tm := [(0, _), (1, _)]) [((0, 0), some (.st 83 (repC p rs c)))] Tryz.func28 rfl Tryz.ntmps28 rfl rfl rfl rfl ?_
 repeat' (first
 |(with_reducible refine rgn 9 900 ?_ ?_); exact rfl
 |(with_reducible refine rgn 10 1000 ?_ ?_); exact rfl
 |(with_reducible refine rgn 11 1100 ?_ ?_); exact rfl
 |(with_reducible refine rgn 12 1200 ?_ ?_); exact rfl
 |(with_reducible refine rgn 13 1300 ?_ ?_); exact rfl
 |(with_reducible refine rgn 14 1400 ?_ ?_); exact rfl
 |(with_reducible refine rgn 15 1500 ?_ ?_); exact rfl
 |(with_reducible refine rgn 16 1600 ?_ ?_); exact rfl
 |(with_reducible refine rgn 17 1700 ?_ ?_); exact rfl
 |(with_reducible refine rgn 18 1800 ?_ ?_); exact rfl
 |(with_reducible refine rgn 19 1900 ?_ ?_); exact rfl
 |(with_reducible refine rgn 20 2000 ?_ ?_); exact rfl
 |(with_reducible refine rgn 21 2100 ?_ ?_); exact rfl
 |(with_reducible refine rgn 22 2200 ?_ ?_); exact rfl
 |(with_reducible refine rgn 23 2300 ?_ ?_); exact rfl
 |(with_reducible refine rgn 24 2400 ?_ ?_); exact rfl
 |(with_reducible refine rgn 25 2500 ?_ ?_); exact rfl
 |(with_reducible refine rgn 8 2600 ?_ ?_); exact rfl
 |(with_reducible refine K_ca 59 ?_); refine zI (rstep_fn p rs c h0 hl) ?_
 |(with_reducible refine K_ca 61 ?_); refine zI (hdn) ?_
 |refine wA ?_
 |(refine wC ?_ ?_ <;> intro hc)
 |refine wB ?_ ?_
 |(with_reducible refine JL.block ?_)
 |(with_reducible refine FO_at ?_); refine eO (vs := [(_, _)]) Tryz.results28 ?_
 |exact oM
 |fail)
 all_goals first | (exfalso; omega) | kernel_rfl
theorem pone3 (h : CtlK p c) (hl : c.plan.length ≤ 1000000) (hrd : -1000000000 ≤ c.round ∧ c.round ≤ 1000000000) (hp : c.phase = 1) (hk : (present c).kind = 1) : FnSound Tryz.prog 28 [.io 83 (repC p rs c), .val true (entC 3 tk c.at_ dt)] [] { vals := [(false, [.d (.v (.bool (oneP p rs c ⟨3, tk, c.at_, dt⟩).isSome))])], ios := [repC p rs (oneD p rs c ⟨3, tk, c.at_, dt⟩)] } := by
 have w2 : w64 (c.round + 1) = c.round + 1 := w64_is (by omega)
 have eb : bump c = ⟨c.plan, c.at_, c.phase, c.replica, c.round + 1, c.token, c.mix⟩ := by unfold bump; rw [w2]
 have e : oneP p rs c ⟨3, tk, c.at_, dt⟩ = some ⟨c.plan, c.at_, 3, c.replica, c.round + 1, c.token, c.mix⟩ := by unfold oneP; simp [hp, hk, eb]
 have h0 := h.rng
 unfold oneD
 rw [e]
 clear h e
 refine startO (tm := [(0, _), (1, _)]) [((0, 0), some (.st 83 (repC p rs c)))] Tryz.func28 rfl Tryz.ntmps28 rfl rfl rfl rfl ?_
 repeat' (first
 |(with_reducible refine rgn 9 900 ?_ ?_); exact rfl
 |(with_reducible refine rgn 10 1000 ?_ ?_); exact rfl
 |(with_reducible refine rgn 11 1100 ?_ ?_); exact rfl
 |(with_reducible refine rgn 12 1200 ?_ ?_); exact rfl
 |(with_reducible refine rgn 13 1300 ?_ ?_); exact rfl
 |(with_reducible refine rgn 14 1400 ?_ ?_); exact rfl
 |(with_reducible refine rgn 15 1500 ?_ ?_); exact rfl
 |(with_reducible refine rgn 16 1600 ?_ ?_); exact rfl
 |(with_reducible refine rgn 17 1700 ?_ ?_); exact rfl
 |(with_reducible refine rgn 18 1800 ?_ ?_); exact rfl
 |(with_reducible refine rgn 19 1900 ?_ ?_); exact rfl
 |(with_reducible refine rgn 20 2000 ?_ ?_); exact rfl
 |(with_reducible refine rgn 21 2100 ?_ ?_); exact rfl
 |(with_reducible refine rgn 22 2200 ?_ ?_); exact rfl
 |(with_reducible refine rgn 23 2300 ?_ ?_); exact rfl
 |(with_reducible refine rgn 24 2400 ?_ ?_); exact rfl
 |(with_reducible refine rgn 25 2500 ?_ ?_); exact rfl
 |(with_reducible refine rgn 8 2600 ?_ ?_); exact rfl
 |(with_reducible refine K_ca 59 ?_); refine zI (rstep_fn p rs c h0 hl) ?_
 |refine wA ?_
 |(refine wC ?_ ?_ <;> intro hc)
 |refine wB ?_ ?_
 |(with_reducible refine JL.block ?_)
 |(with_reducible refine FO_at ?_); refine eO (vs := [(_, _)]) Tryz.results28 ?_
 |exact oM
 |fail)
 all_goals first | (exfalso; omega) | kernel_rfl
theorem pone4 (h : CtlK p c) (hv : PlanV p c.plan) (hl : c.plan.length ≤ 1000000) (hrd : -1000000000 ≤ c.round ∧ c.round ≤ 1000000000) (hp : c.phase = 3) : FnSound Tryz.prog 28 [.io 83 (repC p rs c), .val true (entC 4 tk c.at_ dt)] [] { vals := [(false, [.d (.v (.bool (oneP p rs c ⟨4, tk, c.at_, dt⟩).isSome))])], ios := [repC p rs (oneD p rs c ⟨4, tk, c.at_, dt⟩)] } := by
 have w2 : w64 (c.round + 1) = c.round + 1 := w64_is (by omega)
 have eb : bump c = ⟨c.plan, c.at_, c.phase, c.replica, c.round + 1, c.token, c.mix⟩ := by unfold bump; rw [w2]
 have hix := h.idx (by omega) (by have := (h.ph2 (.inr hp)).1; omega)
 have hab := abort_ok (p := p) (i := (present c).idx) ⟨hix.1, hix.2.1⟩
 have ha := rafter_fn p c.mix ⟨4, (present c).idx, 0⟩ h.g.u
 rw [apply_is (h.valid hv) hab.1 hab.2] at ha
 have e : oneP p rs c ⟨4, tk, c.at_, dt⟩ = some ⟨c.plan, c.at_, 0, 0, c.round + 1, c.token, afterM p c.mix ⟨4, (present c).idx, 0⟩⟩ := by unfold oneP; simp [hp, eb]; rfl
 have h0 := h.rng
 unfold oneD
 rw [e]
 clear h hv hix hab e
 refine startO (tm := [(0, _), (1, _)]) [((0, 0), some (.st 83 (repC p rs c)))] Tryz.func28 rfl Tryz.ntmps28 rfl rfl rfl rfl ?_
 repeat' (first
 |(with_reducible refine rgn 9 900 ?_ ?_); exact rfl
 |(with_reducible refine rgn 10 1000 ?_ ?_); exact rfl
 |(with_reducible refine rgn 11 1100 ?_ ?_); exact rfl
 |(with_reducible refine rgn 12 1200 ?_ ?_); exact rfl
 |(with_reducible refine rgn 13 1300 ?_ ?_); exact rfl
 |(with_reducible refine rgn 14 1400 ?_ ?_); exact rfl
 |(with_reducible refine rgn 15 1500 ?_ ?_); exact rfl
 |(with_reducible refine rgn 16 1600 ?_ ?_); exact rfl
 |(with_reducible refine rgn 17 1700 ?_ ?_); exact rfl
 |(with_reducible refine rgn 18 1800 ?_ ?_); exact rfl
 |(with_reducible refine rgn 19 1900 ?_ ?_); exact rfl
 |(with_reducible refine rgn 20 2000 ?_ ?_); exact rfl
 |(with_reducible refine rgn 21 2100 ?_ ?_); exact rfl
 |(with_reducible refine rgn 22 2200 ?_ ?_); exact rfl
 |(with_reducible refine rgn 23 2300 ?_ ?_); exact rfl
 |(with_reducible refine rgn 24 2400 ?_ ?_); exact rfl
 |(with_reducible refine rgn 25 2500 ?_ ?_); exact rfl
 |(with_reducible refine rgn 8 2600 ?_ ?_); exact rfl
 |(with_reducible refine K_ca 59 ?_); refine zI (rstep_fn p rs c h0 hl) ?_
 |(with_reducible refine K_ca 45 ?_); refine zC (ha) ?_
 |refine wA ?_
 |(refine wC ?_ ?_ <;> intro hc)
 |refine wB ?_ ?_
 |(with_reducible refine JL.block ?_)
 |(with_reducible refine FO_at ?_); refine eO (vs := [(_, _)]) Tryz.results28 ?_
 |exact oM
 |fail)
 all_goals first | (exfalso; omega) | kernel_rfl
end
theorem pone_fn (p : Prob) (rs : List Int) (c : CtlD) (x : EntD) (h : CtlK p c) (hv : PlanV p c.plan) (hs : setErr p rs = 0) (hl : c.plan.length ≤ 1000000) (hrd : -1000000000 ≤ c.round ∧ c.round ≤ 1000000000) : FnSound Tryz.prog 28 [.io 83 (repC p rs c), .val true ((entRow x).map .d)] [] { vals := [(false, [.d (.v (.bool (oneP p rs c x).isSome))])], ios := [repC p rs (oneD p rs c x)] } := by
 obtain ⟨k, tk, ix, dt⟩ := x
 by_cases k5 : k = 5
 ·subst k5; exact pone5 p rs c tk ix dt
 by_cases hi : ix = c.at_
 ·subst hi
  by_cases c1 : k = 1 ∧ c.phase = 0
  ·obtain ⟨rfl, hp⟩ := c1; exact pone1 p rs c tk dt h hv hs hl hrd hp
  by_cases c2 : k = 2 ∧ (c.phase = 1 ∨ c.phase = 4)
  ·obtain ⟨rfl, hp⟩ := c2; exact pone2 p rs c tk dt h hv hl hrd hp
  by_cases c3 : k = 3 ∧ c.phase = 1 ∧ (present c).kind = 1
  ·obtain ⟨rfl, hp, hk⟩ := c3; exact pone3 p rs c tk dt h hl hrd hp hk
  by_cases c4 : k = 4 ∧ c.phase = 3
  ·obtain ⟨rfl, hp⟩ := c4; exact pone4 p rs c tk dt h hv hl hrd hp
  refine poneF p rs c k tk dt h.rng hl hrd k5 ?_
  unfold oneP
  simp only [k5, if_false, not_true_eq_false, c1, c2, c3, c4]
 ·exact poneN p rs c k tk ix dt h.rng hl k5 hi
end Go.Proofs.YtbdjcgjdmhgnmaaGreat

namespace Go.Proofs.YtbdjcgjdmhgnmaaGreat
open Go Go.RowKit
set_option maxRecDepth 100000
set_option maxHeartbeats 8000000
set_option linter.unusedSimpArgs false
set_option linter.unusedVariables false
theorem preplay_fn (p : Prob) (rs : List Int) (l : List StepD) (es : List EntD) (hs : setErr p rs = 0) (hc0 : checkP p l = true) (hl : l.length ≤ 1000000) (he : es.length ≤ 1000) : FnSound Tryz.prog 10 [.val true (probC p), .val false [.d (.sl 1 (dInts rs))], .val false [.d (.sl 3 (dSteps l))], .val false [.d (.sl 4 (dEnts es))]] [] { vals := [(true, ctlC (replayP p rs l es).1), (false, [.d (.v (.int .i64 (replayP p rs l es).2))])] } := by
 obtain ⟨n1, n2, n3, n4⟩ := newP_k hs hc0
 have hnf := pnew_fn p rs l hs hc0 hl
 have hv := planV_of (setErr_ok hs).1 hc0
 have e : replayP p rs l es = replayL p rs (newP p rs l).1 es := by unfold replayP; rw [if_neg (by simpa using n4)]
 rw [e]
 generalize (newP p rs l).1 = c0 at hnf n1 n2 n3 ⊢
 refine startW (tm := [(0, _), (1, _), (2, _), (3, _)]) Tryz.func10 rfl Tryz.ntmps10 rfl rfl rfl rfl ?_
 repeat' (first
 |(with_reducible refine K_ca 27 ?_); refine zC (hnf) ?_
 |(with_reducible refine K_ca 28 ?_); refine zI (pone_fn p rs y.2 (es.getD y.1 nilE) hy.2.1 (by rw [hy.2.2.1]; exact hv) hs (by rw [hy.2.2.1]; exact hl) (by omega)) ?_
 |(with_reducible refine blk_at (id := 0) ?_); ((with_reducible refine JL.loopW 0 699 (fun (y : Nat × CtlD) tm => (33, .one false [.d (.v (.int .i64 ((y.1 : Int))))]) :: tm) (fun (y : Nat × CtlD) bo => ((256, 500), some (.st 83 [.d (.sl 1 ((dInts p.vs))), .d (.sl 1 ((dInts p.now))), .d (.sl 1 ((dInts p.tgt))), .d (.sl 6 ((dTabs p.tabs))), .d (.sl 1 ((dInts rs))), .d (.sl 3 ((dSteps y.2.plan))), .d (.v (.int .i64 (y.2.at_))), .d (.v (.int .i64 (y.2.phase))), .d (.v (.int .i64 (y.2.replica))), .d (.v (.int .i64 (y.2.round))), .d (.v (.int .i64 (y.2.token))), .d (.sl 1 ((dInts y.2.mix.base))), .d (.sl 1 ((dInts y.2.mix.next))), .d (.sl 1 ((dSets y.2.mix.held)))])) :: bo) (fun (y : Nat × CtlD) => y.1 ≤ es.length ∧ CtlK p y.2 ∧ y.2.plan = l ∧ (0 ≤ y.2.round ∧ y.2.round ≤ y.1) ∧ replayL p rs y.2 (es.drop y.1) = replayL p rs c0 es) (fun (y : Nat × CtlD) => es.length - y.1) ((0, c0)) ?_ (fun y hy => ?_) ?_); (focus (apply SubW [] rfl ?_ ?_ rfl ?_; (repeat' (first | exact kA | refine kB ?_ | refine kC ?_ ?_ | exact kD | fail)))))
 |((with_reducible refine round_next (i := y) ((y.1 + 1, oneD p rs y.2 (es.getD y.1 nilE))) ?_ ?_ ?_); (focus (apply SubW [] rfl ?_ ?_ rfl ?_; (repeat' (first | exact kA | refine kB ?_ | refine kC ?_ ?_ | exact kD | fail)))))
 |refine wA ?_
 |(refine wC ?_ ?_ <;> intro hc)
 |refine wB ?_ ?_
 |(with_reducible refine JL.block ?_)
 |(with_reducible refine F_at ?_); refine eW (vs := [(_, _), (_, _)]) Tryz.results10 ?_; (focus (repeat' (first | exact oA | refine oB ?_ | refine oC ?_ ?_ | fail)))
 |exact oM
 |fail)
 all_goals first
  | rfl
  | (rw [replay_err (k := y.1) (by omega) hy.2.2.2.2 (by simpa using hc)] <;> rfl)
  | (have hn := replay_next (k := y.1) (by omega) hy.2.2.2.2 (by simpa using hc); have hi := replay_inv hy.2.1 hy.2.2.1 hl hy.2.2.2.1 (by omega) hn.2; exact ⟨by dsimp only; omega, hi.1, hi.2.1, hi.2.2, hn.1⟩)
  | (rw [← hy.2.2.2.2, List.drop_eq_nil_of_le (by omega)] <;> rfl)
  | exact ⟨Nat.zero_le _, n1, n2, by dsimp only; omega, rfl⟩
  | trace_state
theorem plongest_fn (p : Prob) (rs : List Int) (l : List StepD) (es : List EntD) (hs : setErr p rs = 0) (hc0 : checkP p l = true) (hl : l.length ≤ 1000000) (he : es.length ≤ 1000) : FnSound Tryz.prog 13 [.val true (probC p), .val false [.d (.sl 1 (dInts rs))], .val false [.d (.sl 3 (dSteps l))], .val false [.d (.sl 4 (dEnts es))]] [] { vals := [(false, [.d (.v (.int .i64 ((longL p rs (newP p rs l).1 es : Nat) : Int)))])] } := by
 obtain ⟨n1, n2, n3, n4⟩ := newP_k hs hc0
 have hnf := pnew_fn p rs l hs hc0 hl
 have hv := planV_of (setErr_ok hs).1 hc0
 generalize (newP p rs l).1 = c0 at hnf n1 n2 n3 ⊢
 refine startW (tm := [(0, _), (1, _), (2, _), (3, _)]) Tryz.func13 rfl Tryz.ntmps13 rfl rfl rfl rfl ?_
 repeat' (first
 |(with_reducible refine K_ca 27 ?_); refine zC (hnf) ?_
 |(with_reducible refine K_ca 28 ?_); refine zI (pone_fn p rs y.2 (es.getD y.1 nilE) hy.2.1 (by rw [hy.2.2.1]; exact hv) hs (by rw [hy.2.2.1]; exact hl) (by omega)) ?_
 |(with_reducible refine blk_at (id := 0) ?_); ((with_reducible refine JL.loopW 0 699 (fun (y : Nat × CtlD) tm => (30, .one false [.d (.v (.int .i64 ((y.1 : Int))))]) :: tm) (fun (y : Nat × CtlD) bo => ((256, 500), some (.st 83 [.d (.sl 1 ((dInts p.vs))), .d (.sl 1 ((dInts p.now))), .d (.sl 1 ((dInts p.tgt))), .d (.sl 6 ((dTabs p.tabs))), .d (.sl 1 ((dInts rs))), .d (.sl 3 ((dSteps y.2.plan))), .d (.v (.int .i64 (y.2.at_))), .d (.v (.int .i64 (y.2.phase))), .d (.v (.int .i64 (y.2.replica))), .d (.v (.int .i64 (y.2.round))), .d (.v (.int .i64 (y.2.token))), .d (.sl 1 ((dInts y.2.mix.base))), .d (.sl 1 ((dInts y.2.mix.next))), .d (.sl 1 ((dSets y.2.mix.held)))])) :: bo) (fun (y : Nat × CtlD) => y.1 ≤ es.length ∧ CtlK p y.2 ∧ y.2.plan = l ∧ (0 ≤ y.2.round ∧ y.2.round ≤ y.1) ∧ y.1 + longL p rs y.2 (es.drop y.1) = longL p rs c0 es) (fun (y : Nat × CtlD) => es.length - y.1) ((0, c0)) ?_ (fun y hy => ?_) ?_); (focus (apply SubW [] rfl ?_ ?_ rfl ?_; (repeat' (first | exact kA | refine kB ?_ | refine kC ?_ ?_ | exact kD | fail)))))
 |((with_reducible refine round_next (i := y) ((y.1 + 1, oneD p rs y.2 (es.getD y.1 nilE))) ?_ ?_ ?_); (focus (apply SubW [] rfl ?_ ?_ rfl ?_; (repeat' (first | exact kA | refine kB ?_ | refine kC ?_ ?_ | exact kD | fail)))))
 |refine wA ?_
 |(refine wC ?_ ?_ <;> intro hc)
 |refine wB ?_ ?_
 |(with_reducible refine JL.block ?_)
 |(with_reducible refine F_at ?_); refine eW (vs := [(_, _)]) Tryz.results13 ?_; (focus (repeat' (first | exact oA | refine oB ?_ | refine oC ?_ ?_ | fail)))
 |exact oM
 |fail)
 all_goals first
  | rfl
  | (have h := long_no (k := y.1) (by omega) hy.2.2.2.2 (by simpa using hc); rw [h])
  | (have hn := long_yes (k := y.1) (by omega) hy.2.2.2.2 (by simpa using hc); have hi := replay_inv hy.2.1 hy.2.2.1 hl hy.2.2.2.1 (by omega) hn.2; exact ⟨by dsimp only; omega, hi.1, hi.2.1, hi.2.2, hn.1⟩)
  | (have h := hy.2.2.2.2; rw [List.drop_eq_nil_of_le (by omega)] at h; have h : y.1 + 0 = _ := h; omega)
  | exact ⟨Nat.zero_le _, n1, n2, by dsimp only; omega, by simp⟩
  | trace_state
end Go.Proofs.YtbdjcgjdmhgnmaaGreat

namespace Go.Proofs.YtbdjcgjdmhgnmaaGreat
open Go Go.RowKit
set_option maxRecDepth 100000
set_option maxHeartbeats 8000000
set_option linter.unusedSimpArgs false
set_option linter.unusedVariables false
theorem entryL_fn (k i : Int) : FnSound Tryz.prog 26 [.val false [.d (.v (.int .i64 k))], .val false [.d (.v (.int .i64 i))]] [] { vals := [(true, [.d (.v (.int .i64 k)), .d (.v (.int .i64 1)), .d (.v (.int .i64 i)), .d (.v (.string ByteArray.empty))])] } := by
 refine startW (tm := [(0, _), (1, _)]) Tryz.func26 rfl Tryz.ntmps26 rfl rfl rfl rfl ?_
 repeat' (first
 |refine wA ?_
 |(refine wC ?_ ?_ <;> intro hc)
 |refine wB ?_ ?_
 |(with_reducible refine JL.block ?_)
 |(with_reducible refine F_at ?_); refine eW (vs := [(_, _)]) Tryz.results26 ?_; (focus (repeat' (first | exact oA | refine oB ?_ | refine oC ?_ ?_ | fail)))
 |exact oM
 |fail)
 all_goals first | rfl | trace_state
def pA : Prob := ⟨[2], [0], [1], []⟩
def lA : List StepD := [⟨1, 0, 1⟩, ⟨2, 0, 0⟩]
def enA (k i : Int) : EntD := ⟨k, 1, i, ByteArray.empty⟩
theorem setA : setErr pA [2] = 0 := by kernel_rfl
theorem chkA : checkP pA lA = true := by kernel_rfl
theorem runA1 : replayP pA [2] lA [enA 5 0, enA 1 0, enA 2 0, enA 1 1] = (⟨lA, 1, 1, 0, 3, 0, ⟨[0], [1], []⟩⟩, 0) := by kernel_rfl
theorem runA2 : replayP pA [2] lA [enA 1 0, enA 3 0] = (⟨lA, 0, 3, 0, 2, 0, ⟨[0], [1], []⟩⟩, 0) := by kernel_rfl
theorem runA3 : replayP pA [2] lA [enA 1 0, enA 1 0] = (nilCtl, 1) := by kernel_rfl
theorem awake_fn : FnSound Tryz.prog 9 [] [] { vals := [(false, [.d (.v (.bool true))])] } := by
 have h1 := preplay_fn pA [2] lA [enA 5 0, enA 1 0, enA 2 0, enA 1 1] setA chkA (by decide) (by decide)
 rw [runA1] at h1
 have h2 := preplay_fn pA [2] lA [enA 1 0, enA 3 0] setA chkA (by decide) (by decide)
 rw [runA2] at h2
 have h3 := preplay_fn pA [2] lA [enA 1 0, enA 1 0] setA chkA (by decide) (by decide)
 rw [runA3] at h3
 refine startW (tm := []) Tryz.func9 rfl Tryz.ntmps9 rfl rfl rfl rfl ?_
 repeat' (first
 |(with_reducible refine reg_at (id := 3) ?_); (try (refine JL.shutBW (cs2 := [_, _, _, _]) (256, 200) 0 rfl rfl rfl rfl ?_)); (try (refine JL.shutBW (cs2 := [_, _, _, _]) (256, 200) 1 rfl rfl rfl rfl ?_)); (try (refine JL.shutBW (cs2 := [_, _, _, _]) (256, 200) 2 rfl rfl rfl rfl ?_)); (try (refine JL.zeroBW (cs2 := [_, _, _, _]) (256, 200) 3 _ 147 6 rfl rfl rfl rfl ?_)); (try (refine JL.shutBW (cs2 := [_, _, _, _]) (256, 200) 3 rfl rfl rfl rfl ?_)); (try (refine JL.shutW 2 rfl rfl ?_)); (with_reducible refine rg ?_ ?_); exact rfl
 |(with_reducible refine K_ca 26 ?_); (first
 |refine zC (entryL_fn 5 0) ?_
 |refine zC (entryL_fn 1 0) ?_
 |refine zC (entryL_fn 2 0) ?_
 |refine zC (entryL_fn 1 1) ?_
 |refine zC (entryL_fn 3 0) ?_)
 |(with_reducible refine W_at ?_); (first
 |(refine W.call (sh := [_, _]) rfl bo10.h h1 rfl rfl rfl rfl rfl rfl ?_)
 |(refine W.call (sh := [_, _]) rfl bo10.h h2 rfl rfl rfl rfl rfl rfl ?_)
 |(refine W.call (sh := [_, _]) rfl bo10.h h3 rfl rfl rfl rfl rfl rfl ?_))
 |refine wA ?_
 |(refine wC ?_ ?_ <;> intro hc)
 |refine wB ?_ ?_
 |(with_reducible refine JL.block ?_)
 |(with_reducible refine F_at ?_); refine eW (vs := [(_, _)]) Tryz.results9 ?_; (focus (repeat' (first | exact oA | refine oB ?_ | refine oC ?_ ?_ | fail)))
 |exact oM
 |fail)
 all_goals first | rfl | trace_state
end Go.Proofs.YtbdjcgjdmhgnmaaGreat

