/- Rules of runs and contracts of functions, for the claims of one seat. -/
import Derived.Test.YtdpeoolildjohaaGreatDoorQA14
import Derived.Test.YtdpeoolildjohaaGreatDoorTA31
namespace Go.Proofs.YtdpeoolildjohaaGreatDoor
open Go Go.RowKit
set_option maxRecDepth 100000
set_option maxHeartbeats 8000000
set_option linter.unusedSimpArgs false
set_option linter.unusedVariables false
theorem next4_fn (p : Prob) (rs : List Int) (c : CtlD) (tk rd rp vr tb : Int) (pa : Bool) (h : CtlK p c) (hs : setErr p rs = 0) (hl : c.plan.length ≤ 1000000) (hrd : -1000000000 ≤ c.round ∧ c.round ≤ 1000000000) (hrp : -1000000000 ≤ c.replica ∧ c.replica ≤ 1000000000) : FnSound Tryz.prog 58 [.val true (probC p), .val false [.d (.sl 1 (dInts rs))], .val true (ctlC c), .val true [.d (.v (.int .i64 4)), .d (.v (.int .i64 tk)), .d (.v (.int .i64 rd)), .d (.v (.int .i64 rp)), .d (.v (.int .i64 vr)), .d (.v (.bool pa)), .d (.v (.int .i64 tb))]] [] { vals := [(true, ctlC (nextP p rs c ⟨4, tk, rd, rp, vr, pa, tb⟩).1), (false, [.d (.sl 10 (dActs (nextP p rs c ⟨4, tk, rd, rp, vr, pa, tb⟩).2))])] } := by
 have e : nextP p rs c ⟨4, tk, rd, rp, vr, pa, tb⟩ = if c.token = 0 then (c, []) else if rd = c.round ∧ (c.phase = 1 ∨ c.phase = 3) then (if ¬ rp = c.replica ∨ ¬ vr = wantedP c then (c, [])
     else if c.phase = 3 then (⟨c.plan, c.at_, 5, 0, c.round, c.token, abortedP p c.plan c.at_⟩, [])
     else if (c.plan.getD c.at_.toNat nilS).kind = 1 then (⟨c.plan, c.at_, 2, c.replica, c.round, c.token, c.mix⟩, repeatP ⟨c.plan, c.at_, 2, c.replica, c.round, c.token, c.mix⟩)
     else if c.replica = firstR rs (c.plan.getD c.at_.toNat nilS).idx + rs.getD (c.plan.getD c.at_.toNat nilS).idx.toNat 0 - 1 then (doneC p c, [entA c 2])
     else (⟨c.plan, c.at_, c.phase, c.replica + 1, c.round, c.token, c.mix⟩, repeatP ⟨c.plan, c.at_, c.phase, c.replica + 1, c.round, c.token, c.mix⟩)) else (c, []) := by
  have w3 : w64 (c.replica + 1) = c.replica + 1 := w64_is (by omega)
  unfold nextP ackP
  simp only [show ¬ (4 : Int) = 1 by decide, show ¬ (4 : Int) = 2 by decide, show ¬ (4 : Int) = 3 by decide, show ¬ (4 : Int) = 5 by decide, show ¬ (4 : Int) = 6 by decide, show ¬ (4 : Int) = 7 by decide, if_false, false_and, true_and, present, w3]
 rw [e]
 have hlt := h.lt
 have hr := h.rng
 have hso := setErr_ok hs
 have hvp := vp_all hso.1
 have hrl := hso.2.1
 have hbu := h.busy
 have hfr := fun hi => first_fn rs (c.plan.getD c.at_.toNat nilS).idx hi hso.2.2 (by omega)
 have hrr := hso.2.2 (c.plan.getD c.at_.toNat nilS).idx.toNat
 have hsl := sum_le hso.2.2 (c.plan.getD c.at_.toNat nilS).idx.toNat
 have efr : firstR rs (c.plan.getD c.at_.toNat nilS).idx = (rs.take (c.plan.getD c.at_.toNat nilS).idx.toNat).sum := rfl
 have w3 : w64 (c.replica + 1) = c.replica + 1 := w64_is (by omega)
 have hb1 : c.phase = 1 → 0 ≤ c.at_ ∧ c.at_ < c.plan.length ∧ 0 ≤ (c.plan.getD c.at_.toNat nilS).idx ∧ (c.plan.getD c.at_.toNat nilS).idx < rs.length ∧ (c.plan.getD c.at_.toNat nilS).idx < c.mix.base.length ∧ (c.plan.getD c.at_.toNat nilS).idx < c.mix.next.length := fun a => by
  have := hbu (.inl a); have := hlt (by omega); omega
 have hb3 : c.phase = 3 → 0 ≤ c.at_ ∧ c.at_ < c.plan.length ∧ 0 ≤ (c.plan.getD c.at_.toNat nilS).idx ∧ (c.plan.getD c.at_.toNat nilS).idx < rs.length ∧ (c.plan.getD c.at_.toNat nilS).idx < c.mix.base.length ∧ (c.plan.getD c.at_.toNat nilS).idx < c.mix.next.length := fun a => by
  have := hbu (.inr (.inr a)); have := hlt (by omega); omega
 have hK2 : c.phase = 1 → (c.plan.getD c.at_.toNat nilS).kind = 1 → CtlK p ⟨c.plan, c.at_, 2, c.replica, c.round, c.token, c.mix⟩ := fun a k => ctlK_mk h.plan ⟨hr.1, hlt (by omega)⟩ (.inr (.inr (.inl ⟨rfl, k, by
  rcases h.ph1 a with ⟨_, m⟩ | ⟨k', _⟩
  ·exact m
  ·unfold present at k'; omega⟩)))
 have hk1 := h.ph1
 have hk3 : c.phase = 3 → (c.plan.getD c.at_.toNat nilS).kind = 1 := fun a => (h.ph2 (.inr a)).1
 have hrs6 : rs.length ≤ 6 := by omega
 clear hbu hvp e
 by_cases p1 : c.phase = 1
 ·have hb := hb1 p1
  have n3 : ¬ c.phase = 3 := by omega
  have hK2 := hK2 p1
  clear hb1 hb3 hk1 hk3
  refine startW (tm := [(0, _), (1, _), (2, _), (3, _)]) Tryz.func58 rfl Tryz.ntmps58 rfl rfl rfl rfl ?_
  repeat' (first
 |(with_reducible refine K_ca 62 ?_); refine zC (wanted_fn c ⟨hb.1, hb.2.1⟩ ⟨hb.2.2.1, hb.2.2.2.2⟩) ?_
 |(with_reducible refine K_ca 92 ?_); (first
 |refine zC (repeated_fn p ⟨c.plan, c.at_, 2, c.replica, c.round, c.token, c.mix⟩ (hK2 (by assumption)) hl) ?_
 |refine zC (repeated_fn p ⟨c.plan, c.at_, c.phase, c.replica + 1, c.round, c.token, c.mix⟩ (h.replica _) hl) ?_)
 |(with_reducible refine K_ca 28 ?_); refine zC (hfr (by omega)) ?_
 |(with_reducible refine K_ca 93 ?_); refine zC (done_fn p c h hl (by omega) hrd) ?_
 |refine wA ?_
 |(refine wC ?_ ?_ <;> intro hc)
 |refine wB ?_ ?_
 |(with_reducible refine JL.block ?_)
 |(with_reducible refine F_at ?_); refine eW (vs := [(_, _), (_, _)]) Tryz.results58 ?_; (focus (repeat' (first | exact oA | refine oB ?_ | refine oC ?_ ?_ | fail)))
 |exact oM
 |fail)
  all_goals (clear h hs hrp hrd hr hlt hso hfr hrr hsl; first | rfl | ((repeat' split) <;> first | rfl | (exfalso; omega) | (exfalso; grind)) | trace_state)
 ·by_cases p3 : c.phase = 3
  ·have hb := hb3 p3
   have hk3 := hk3 p3
   clear hb1 hb3 hk1 hK2
   refine startW (tm := [(0, _), (1, _), (2, _), (3, _)]) Tryz.func58 rfl Tryz.ntmps58 rfl rfl rfl rfl ?_
   repeat' (first
 |(with_reducible refine K_ca 62 ?_); refine zC (wanted_fn c ⟨hb.1, hb.2.1⟩ ⟨hb.2.2.1, hb.2.2.2.2⟩) ?_
 |(with_reducible refine K_ca 70 ?_); refine zC (aborted_fn p c.plan c.at_ h.plan hl ⟨hb.1, hb.2.1⟩ hk3) ?_
 |refine wA ?_
 |(refine wC ?_ ?_ <;> intro hc)
 |refine wB ?_ ?_
 |(with_reducible refine JL.block ?_)
 |(with_reducible refine F_at ?_); refine eW (vs := [(_, _), (_, _)]) Tryz.results58 ?_; (focus (repeat' (first | exact oA | refine oB ?_ | refine oC ?_ ?_ | fail)))
 |exact oM
 |fail)
   all_goals (clear h hs hrp hrd hr hlt hso hfr hrr hsl; first | rfl | ((repeat' split) <;> first | rfl | (exfalso; omega) | (exfalso; grind)) | trace_state)
  ·refine startW (tm := [(0, _), (1, _), (2, _), (3, _)]) Tryz.func58 rfl Tryz.ntmps58 rfl rfl rfl rfl ?_
   repeat' (first
 |refine wA ?_
 |(refine wC ?_ ?_ <;> intro hc)
 |refine wB ?_ ?_
 |(with_reducible refine JL.block ?_)
 |(with_reducible refine F_at ?_); refine eW (vs := [(_, _), (_, _)]) Tryz.results58 ?_; (focus (repeat' (first | exact oA | refine oB ?_ | refine oC ?_ ?_ | fail)))
 |exact oM
 |fail)
   all_goals (clear h hs hrp hrd hr hlt hso hfr hrr hsl; first | rfl | ((repeat' split) <;> first | rfl | (exfalso; omega) | (exfalso; grind)) | trace_state)
end Go.Proofs.YtdpeoolildjohaaGreatDoor

