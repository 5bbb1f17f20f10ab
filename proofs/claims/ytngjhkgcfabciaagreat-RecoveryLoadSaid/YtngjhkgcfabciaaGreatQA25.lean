/- Rules of runs and contracts of functions, for the claims of one seat. -/
import Derived.Test.YtngjhkgcfabciaaGreatQA13
import Derived.Test.YtngjhkgcfabciaaGreatQA15
import Derived.Test.YtngjhkgcfabciaaGreatQA23
import Derived.Test.YtngjhkgcfabciaaGreatQA24
namespace Go.Proofs.YtngjhkgcfabciaaGreat
open Go Go.RowKit
set_option maxRecDepth 100000
set_option maxHeartbeats 8000000
set_option linter.unusedSimpArgs false
set_option linter.unusedVariables false
theorem wanted_fn (c : CtlD) (h : 0 ≤ c.at_ ∧ c.at_ < c.plan.length) (hi : 0 ≤ (c.plan.getD c.at_.toNat nilS).idx ∧ (c.plan.getD c.at_.toNat nilS).idx < c.mix.base.length ∧ (c.plan.getD c.at_.toNat nilS).idx < c.mix.next.length) : FnSound Tryz.prog 26 [.val true (ctlC c)] [] { vals := [(false, [.d (.v (.int .i64 (wantedP c)))])] } := by
 refine startW (tm := [(0, _)]) Tryz.func26 rfl Tryz.ntmps26 rfl rfl rfl rfl ?_
 repeat' (first
 |refine wA ?_
 |(refine wC ?_ ?_ <;> intro hc)
 |refine wB ?_ ?_
 |(with_reducible refine JL.block ?_)
 |(with_reducible refine F_at ?_); refine eW (vs := [(_, _)]) Tryz.results26 ?_; (focus (repeat' (first | exact oA | refine oB ?_ | refine oC ?_ ?_ | fail)))
 |exact oM
 |fail)
 all_goals (unfold wantedP present; first | rw [if_pos hc] | rw [if_neg hc])
theorem CtlK.idx {p : Prob} {c : CtlD} (h : CtlK p c) (hp : ¬ c.phase = 6) (hk : ¬ (present c).kind = 3) : 0 ≤ (c.plan.getD c.at_.toNat nilS).idx ∧ (c.plan.getD c.at_.toNat nilS).idx < p.vs.length ∧ c.mix.base.length = p.vs.length ∧ c.mix.next.length = p.vs.length := by
 have h1 := (h.st hp).1
 exact ⟨h1.nn, h1.svc hk, h.g.inn.lb, h.g.inn.ln⟩
theorem CtlK.busy {p : Prob} {c : CtlD} (h : CtlK p c) (hp : c.phase = 1 ∨ c.phase = 2 ∨ c.phase = 3) : 0 ≤ (c.plan.getD c.at_.toNat nilS).idx ∧ (c.plan.getD c.at_.toNat nilS).idx < p.vs.length ∧ c.mix.base.length = p.vs.length ∧ c.mix.next.length = p.vs.length := by
 refine h.idx (by omega) ?_
 rcases hp with e | e | e
 ·rcases h.ph1 e with ⟨k, _⟩ | ⟨k, _⟩ <;> omega
 ·have := (h.ph2 (.inl e)).1; omega
 ·have := (h.ph2 (.inr e)).1; omega
theorem repeatP_len (c : CtlD) : (repeatP c).length ≤ 1 := by
 unfold repeatP; (repeat' split) <;> simp
theorem repeated_fn (p : Prob) (c : CtlD) (h : CtlK p c) (hl : c.plan.length ≤ 1000000) : FnSound Tryz.prog 50 [.val true (ctlC c)] [] { vals := [(false, [.d (.sl 10 (dActs (repeatP c)))])] } := by
 have hr := h.rng
 have hlt := h.lt
 have hb := h.busy
 refine startW (tm := [(0, _)]) Tryz.func50 rfl Tryz.ntmps50 rfl rfl rfl rfl ?_
 repeat' (first
 |(with_reducible refine K_ca 26 ?_); refine zC (wanted_fn c (by omega) (by omega)) ?_
 |refine wA ?_
 |(refine wC ?_ ?_ <;> intro hc)
 |refine wB ?_ ?_
 |(with_reducible refine JL.block ?_)
 |(with_reducible refine F_at ?_); refine eW (vs := [(_, _)]) Tryz.results50 ?_; (focus (repeat' (first | exact oA | refine oB ?_ | refine oC ?_ ?_ | fail)))
 |exact oM
 |fail)
 all_goals ((unfold repeatP; repeat' split) <;> first | rfl | (exfalso; omega))
theorem entry_fn (c : CtlD) (k : Int) (hr : -1000000000 ≤ c.round ∧ c.round ≤ 1000000000) : FnSound Tryz.prog 53 [.val true (ctlC c), .val false [.d (.v (.int .i64 k))]] [] { vals := [(true, [.d (.sl 3 (dSteps c.plan)), .d (.v (.int .i64 c.at_)), .d (.v (.int .i64 c.phase)), .d (.v (.int .i64 c.replica)), .d (.v (.int .i64 (c.round + 1))), .d (.v (.int .i64 c.token)), .d (.sl 1 (dInts c.mix.base)), .d (.sl 1 (dInts c.mix.next)), .d (.sl 1 (dSets c.mix.held))]), (false, [.own (128, 400)])], bx := [((128, 400), .sl 66 10 (dActs [entA c k]))] } := by
 refine startO (tm := [(0, _), (1, _)]) [] Tryz.func53 rfl Tryz.ntmps53 rfl rfl rfl rfl ?_
 repeat' (first
 |refine wA ?_
 |(refine wC ?_ ?_ <;> intro hc)
 |refine wB ?_ ?_
 |(with_reducible refine JL.block ?_)
 |(with_reducible refine FO_at ?_); refine eO (vs := [(_, _), (_, _)]) Tryz.results53 ?_
 |exact oM
 |fail)
 all_goals kernel_rfl
theorem done_fn (p : Prob) (c : CtlD) (h : CtlK p c) (hl : c.plan.length ≤ 1000000) (hp : ¬ c.phase = 6) (hrd : -1000000000 ≤ c.round ∧ c.round ≤ 1000000000) : FnSound Tryz.prog 52 [.val true (probC p), .val true (ctlC c)] [] { vals := [(true, ctlC (doneC p c)), (false, [.d (.sl 10 (dActs [entA c 2]))])] } := by
 have hr := h.rng
 have hlt := h.lt hp
 have hst := h.st hp
 have w1 : w64 (c.at_ + 1) = c.at_ + 1 := w64_is (by omega)
 have w2 : w64 (c.round + 1) = c.round + 1 := w64_is (by omega)
 have e : doneC p c = { plan := c.plan, at_ := c.at_ + 1, phase := if c.at_ + 1 = c.plan.length then 6 else 0, replica := 0, round := c.round + 1, token := c.token, mix := if ¬ (present c).kind = 1 then afterM p c.mix (present c) else c.mix } := by unfold doneC; rw [w1, w2]
 rw [e]
 refine startW (tm := [(0, _), (1, _)]) Tryz.func52 rfl Tryz.ntmps52 rfl rfl rfl rfl ?_
 repeat' (first
 |(with_reducible refine K_ca 53 ?_); refine zE (entry_fn c 2 hrd) ?_
 |(with_reducible refine K_ca 78 ?_); refine zC (after_fn p c.mix (c.plan.getD c.at_.toNat nilS) h.g.inn hst.1 ⟨hst.2.1, by have := hst.2.2; unfold present at this; omega⟩) ?_
 |refine wA ?_
 |(refine wC ?_ ?_ <;> intro hc)
 |refine wB ?_ ?_
 |(with_reducible refine JL.block ?_)
 |(with_reducible refine F_at ?_); refine eW (vs := [(_, _), (_, _)]) Tryz.results52 ?_; (focus (repeat' (first | exact oA | refine oB ?_ | refine oC ?_ ?_ | fail)))
 |exact oM
 |fail)
 all_goals first
  | rfl
  | (rw [if_pos hc]; done)
  | (rw [if_neg hc]; done)
  | (dsimp only; rw [if_pos (show ¬ (present c).kind = 1 by unfold present; assumption)] <;> rfl)
  | (dsimp only; rw [if_neg (show ¬ ¬ (present c).kind = 1 by unfold present; grind)] <;> rfl)
  | trace_state
theorem tick0_fn (p : Prob) (rs : List Int) (c : CtlD) (h : CtlK p c) (hl : c.plan.length ≤ 1000000) (hp : ¬ c.phase = 0) : FnSound Tryz.prog 48 [.val true (probC p), .val false [.d (.sl 1 (dInts rs))], .val true (ctlC c)] [] { vals := [(true, ctlC (tickP p rs c).1), (false, [.d (.sl 10 (dActs (tickP p rs c).2))])] } := by
 have e : tickP p rs c = (c, repeatP c) := by unfold tickP; rw [if_pos hp]
 rw [e]
 refine startW (tm := [(0, _), (1, _), (2, _)]) Tryz.func48 rfl Tryz.ntmps48 rfl rfl rfl rfl ?_
 repeat' (first
 |(with_reducible refine K_ca 50 ?_); refine zC (repeated_fn p c h hl) ?_
 |refine wA ?_
 |(refine wC ?_ ?_ <;> intro hc)
 |refine wB ?_ ?_
 |(with_reducible refine JL.block ?_)
 |(with_reducible refine F_at ?_); refine eW (vs := [(_, _), (_, _)]) Tryz.results48 ?_; (focus (repeat' (first | exact oA | refine oB ?_ | refine oC ?_ ?_ | fail)))
 |exact oM
 |fail)
 all_goals first | rfl | exact absurd hc hp | trace_state
theorem tick_fn (p : Prob) (rs : List Int) (c : CtlD) (h : CtlK p c) (hs : setErr p rs = 0) (hl : c.plan.length ≤ 1000000) (hp : c.phase = 0) (hrd : -1000000000 ≤ c.round ∧ c.round ≤ 1000000000) : FnSound Tryz.prog 48 [.val true (probC p), .val false [.d (.sl 1 (dInts rs))], .val true (ctlC c)] [] { vals := [(true, ctlC (tickP p rs c).1), (false, [.d (.sl 10 (dActs (tickP p rs c).2))])] } := by
 have hso := setErr_ok hs
 have hvp := vp_all hso.1
 have hr := h.rng
 have hlt := h.lt (by omega)
 have hst := h.st (by omega)
 have hix := h.idx (by omega)
 have hrl := hso.2.1
 have w2 : w64 (c.round + 1) = c.round + 1 := w64_is (by omega)
 have e : tickP p rs c = (beginC p rs c, entA c 1 :: repeatP (beginC p rs c)) := by unfold tickP; rw [if_neg (by omega)]
 have hbk := h.begin (rs := rs) hp
 have eb : beginC p rs c = { plan := c.plan, at_ := c.at_, phase := if (c.plan.getD c.at_.toNat nilS).kind = 3 then 4 else 1, replica := if (c.plan.getD c.at_.toNat nilS).kind = 3 then c.replica else firstR rs (c.plan.getD c.at_.toNat nilS).idx, round := c.round + 1, token := c.token, mix := if (c.plan.getD c.at_.toNat nilS).kind = 1 then afterM p c.mix (c.plan.getD c.at_.toNat nilS) else c.mix } := by unfold beginC; rw [w2]; rfl
 rw [e]
 rw [eb] at hbk ⊢
 have hrf := repeated_fn p _ hbk hl
 have hra := repeatP_len (beginC p rs c)
 rw [eb] at hra
 by_cases k3 : (c.plan.getD c.at_.toNat nilS).kind = 3
 ·simp only [k3, if_true, show ¬ (3 : Int) = 1 by decide, if_false] at hrf hra ⊢
  refine startW (tm := [(0, _), (1, _), (2, _)]) Tryz.func48 rfl Tryz.ntmps48 rfl rfl rfl rfl ?_
  repeat' (first
 |(with_reducible refine K_ca 50 ?_); refine zC (hrf) ?_
 |(with_reducible refine K_ca 53 ?_); refine zE (entry_fn c 1 hrd) ?_
 |refine wA ?_
 |(refine wC ?_ ?_ <;> intro hc)
 |refine wB ?_ ?_
 |(with_reducible refine JL.block ?_)
 |(with_reducible refine F_at ?_); refine eW (vs := [(_, _), (_, _)]) Tryz.results48 ?_; (focus (repeat' (first | exact oA | refine oB ?_ | refine oC ?_ ?_ | fail)))
 |exact oM
 |fail)
  all_goals first | rfl | (exfalso; omega) | trace_state
 ·by_cases k1 : (c.plan.getD c.at_.toNat nilS).kind = 1
  ·simp only [k1, if_true, show ¬ (1 : Int) = 3 by decide, if_false] at hrf hra ⊢
   refine startW (tm := [(0, _), (1, _), (2, _)]) Tryz.func48 rfl Tryz.ntmps48 rfl rfl rfl rfl ?_
   repeat' (first
 |(with_reducible refine K_ca 50 ?_); refine zC (hrf) ?_
 |(with_reducible refine K_ca 53 ?_); refine zE (entry_fn c 1 hrd) ?_
 |(with_reducible refine K_ca 51 ?_); refine zC (first_fn rs (c.plan.getD c.at_.toNat nilS).idx (by have := hix k3; omega) hso.2.2 (by omega)) ?_
 |(with_reducible refine K_ca 78 ?_); refine zC (after_fn p c.mix (c.plan.getD c.at_.toNat nilS) h.g.inn hst.1 ⟨hst.2.1, by have := hst.2.2; unfold present at this; omega⟩) ?_
 |refine wA ?_
 |(refine wC ?_ ?_ <;> intro hc)
 |refine wB ?_ ?_
 |(with_reducible refine JL.block ?_)
 |(with_reducible refine F_at ?_); refine eW (vs := [(_, _), (_, _)]) Tryz.results48 ?_; (focus (repeat' (first | exact oA | refine oB ?_ | refine oC ?_ ?_ | fail)))
 |exact oM
 |fail)
   all_goals first | rfl | (exfalso; omega) | trace_state
  ·simp only [k1, k3, if_false] at hrf hra ⊢
   refine startW (tm := [(0, _), (1, _), (2, _)]) Tryz.func48 rfl Tryz.ntmps48 rfl rfl rfl rfl ?_
   repeat' (first
 |(with_reducible refine K_ca 50 ?_); refine zC (hrf) ?_
 |(with_reducible refine K_ca 53 ?_); refine zE (entry_fn c 1 hrd) ?_
 |(with_reducible refine K_ca 51 ?_); refine zC (first_fn rs (c.plan.getD c.at_.toNat nilS).idx (by have := hix k3; omega) hso.2.2 (by omega)) ?_
 |refine wA ?_
 |(refine wC ?_ ?_ <;> intro hc)
 |refine wB ?_ ?_
 |(with_reducible refine JL.block ?_)
 |(with_reducible refine F_at ?_); refine eW (vs := [(_, _), (_, _)]) Tryz.results48 ?_; (focus (repeat' (first | exact oA | refine oB ?_ | refine oC ?_ ?_ | fail)))
 |exact oM
 |fail)
   all_goals first | rfl | (exfalso; omega) | trace_state
theorem tickA_fn (p : Prob) (rs : List Int) (c : CtlD) (h : CtlK p c) (hs : setErr p rs = 0) (hl : c.plan.length ≤ 1000000) (hrd : -1000000000 ≤ c.round ∧ c.round ≤ 1000000000) : FnSound Tryz.prog 48 [.val true (probC p), .val false [.d (.sl 1 (dInts rs))], .val true (ctlC c)] [] { vals := [(true, ctlC (tickP p rs c).1), (false, [.d (.sl 10 (dActs (tickP p rs c).2))])] } := by
 by_cases hp : c.phase = 0
 ·exact tick_fn p rs c h hs hl hp hrd
 ·exact tick0_fn p rs c h hl hp
end Go.Proofs.YtngjhkgcfabciaaGreat

