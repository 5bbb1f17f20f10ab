/-
  Rows.RecoveryReplaySaid: for every case and every list of entries the law RecoveryReplay returns true and leaves its arguments as they were. No condition.
-/
import Derived.Test.YtbdjcgjdmhgnmaaGreatKA14
import Derived.Test.YtbdjcgjdmhgnmaaGreatKA23
import Derived.Test.YtbdjcgjdmhgnmaaGreatKA24
import Derived.Test.YtbdjcgjdmhgnmaaGreatKA30
import Derived.Test.YtbdjcgjdmhgnmaaGreatKA31
import Derived.Test.YtbdjcgjdmhgnmaaGreatKA38
namespace Go.Proofs.YtbdjcgjdmhgnmaaGreat
open Go Go.RowKit
set_option maxRecDepth 100000
set_option maxHeartbeats 8000000
set_option linter.unusedSimpArgs false
set_option linter.unusedVariables false
theorem raborted_fn (p : Prob) (m : MixD) (i : Int) (hm : MixG p m) (hs : StepAt p ⟨4, i, 0⟩) : FnSound Tryz.prog 67 [.val true (probC p), .val true (mixC m), .val false [.d (.v (.int .i64 i))]] [] { vals := [(true, mixC (abortM p m i))] } := by
 refine startW (tm := [(0, _), (1, _), (2, _)]) Tryz.func67 rfl Tryz.ntmps67 rfl rfl rfl rfl ?_
 repeat' (first
  | ((with_reducible refine K_ca 48 ?_); refine zC (after_fn p m ⟨4, i, 0⟩ hm.inn hs ⟨show (1 : Int) ≤ 4 by decide, show (4 : Int) ≤ 4 by decide⟩) ?_)
  | refine wA ?_
  | (refine wC ?_ ?_ <;> intro hc)
  | refine wB ?_ ?_
  | (with_reducible refine JL.block ?_)
  | ((with_reducible refine F_at ?_); refine eW (vs := [(_, _)]) Tryz.results67 ?_; (focus (repeat' (first | exact oA | refine oB ?_ | refine oC ?_ ?_ | fail))))
  | ((with_reducible refine FO_at ?_); refine eO (vs := [(_, _)]) Tryz.results67 ?_)
  | exact oM
  | fail)
 all_goals rfl
theorem rbegin_fn (p : Prob) (rs : List Int) (c : CtlD) (h : CtlK p c) (hs : setErr p rs = 0) (hl : c.plan.length ≤ 1000000) (hp : c.phase = 0) : FnSound Tryz.prog 65 [.val true (probC p), .val false [.d (.sl 1 (dInts rs))], .val true (ctlC c)] [] { vals := [(true, ctlC (beginR p rs c))] } := by
 have hso := setErr_ok hs
 have hvp := vp_all hso.1
 have hr := h.rng
 have hlt := h.lt (by omega)
 have hst := h.st (by omega)
 have hix := h.idx (by omega)
 have hrl := hso.2.1
 have hfr := fun hi => first_fn rs (c.plan.getD c.at_.toNat nilS).idx hi hso.2.2 (by omega)
 have haf := after_fn p c.mix (c.plan.getD c.at_.toNat nilS) h.g.inn hst.1 ⟨hst.2.1, by have := hst.2.2; unfold present at this; omega⟩
 have hix : ¬ (c.plan.getD c.at_.toNat nilS).kind = 3 → 0 ≤ (c.plan.getD c.at_.toNat nilS).idx ∧ (c.plan.getD c.at_.toNat nilS).idx ≤ rs.length := fun k => by have := hix k; omega
 clear hst hso hvp hs
 refine startW (tm := [(0, _), (1, _), (2, _)]) Tryz.func65 rfl Tryz.ntmps65 rfl rfl rfl rfl ?_
 repeat' (first
  | ((with_reducible refine K_ca 47 ?_); refine zC (hfr (hix (by assumption))) ?_)
  | ((with_reducible refine K_ca 48 ?_); refine zC (haf) ?_)
  | refine wA ?_
  | (refine wC ?_ ?_ <;> intro hc)
  | refine wB ?_ ?_
  | (with_reducible refine JL.block ?_)
  | ((with_reducible refine F_at ?_); refine eW (vs := [(_, _)]) Tryz.results65 ?_; (focus (repeat' (first | exact oA | refine oB ?_ | refine oC ?_ ?_ | fail))))
  | ((with_reducible refine FO_at ?_); refine eO (vs := [(_, _)]) Tryz.results65 ?_)
  | exact oM
  | fail)
 all_goals (clear h hfr haf hix; unfold beginR present; first | rfl | ((repeat' split) <;> first | rfl | (exfalso; omega) | (exfalso; grind)) | trace_state)
theorem rdone_fn (p : Prob) (c : CtlD) (h : CtlK p c) (hl : c.plan.length ≤ 1000000) (hp : ¬ c.phase = 6) : FnSound Tryz.prog 66 [.val true (probC p), .val true (ctlC c)] [] { vals := [(true, ctlC (doneR p c))] } := by
 have hr := h.rng
 have hlt := h.lt hp
 have hst := h.st hp
 have w1 : w64 (c.at_ + 1) = c.at_ + 1 := w64_is (by omega)
 have e : doneR p c = { plan := c.plan, at_ := c.at_ + 1, phase := if c.at_ + 1 = c.plan.length then 6 else 0, replica := 0, round := c.round, token := c.token, mix := if ¬ (c.plan.getD c.at_.toNat nilS).kind = 1 then afterM p c.mix (c.plan.getD c.at_.toNat nilS) else c.mix } := by unfold doneR; rw [w1]; rfl
 have haf := after_fn p c.mix (c.plan.getD c.at_.toNat nilS) h.g.inn hst.1 ⟨hst.2.1, by have := hst.2.2; unfold present at this; omega⟩
 rw [e]
 clear hst
 refine startW (tm := [(0, _), (1, _)]) Tryz.func66 rfl Tryz.ntmps66 rfl rfl rfl rfl ?_
 repeat' (first
  | ((with_reducible refine K_ca 48 ?_); refine zC (haf) ?_)
  | refine wA ?_
  | (refine wC ?_ ?_ <;> intro hc)
  | refine wB ?_ ?_
  | (with_reducible refine JL.block ?_)
  | ((with_reducible refine F_at ?_); refine eW (vs := [(_, _)]) Tryz.results66 ?_; (focus (repeat' (first | exact oA | refine oB ?_ | refine oC ?_ ?_ | fail))))
  | ((with_reducible refine FO_at ?_); refine eO (vs := [(_, _)]) Tryz.results66 ?_)
  | exact oM
  | fail)
 all_goals (clear h haf; first | rfl | (dsimp only; (repeat' split) <;> first | rfl | (exfalso; omega) | (exfalso; grind)) | trace_state)
theorem one5_fn (p : Prob) (rs : List Int) (c : CtlD) (tk ix : Int) (dt : ByteArray) (h : CtlK p c) (hs : setErr p rs = 0) (hl : c.plan.length ≤ 1000000) (hrd : -1000000000 ≤ c.round ∧ c.round ≤ 1000000000) : FnSound Tryz.prog 30 [.val true (probC p), .val false [.d (.sl 1 (dInts rs))], .val true (ctlC c), .val true [.d (.v (.int .i64 5)), .d (.v (.int .i64 tk)), .d (.v (.int .i64 ix)), .d (.v (.string dt))]] [] { vals := [(true, ctlC (oneD p rs c ⟨5, tk, ix, dt⟩)), (false, [.d (.v (.bool (oneP p rs c ⟨5, tk, ix, dt⟩).isSome))])] } := by
 have w2 : w64 (c.round + 1) = c.round + 1 := w64_is (by omega)
 have eb : bump c = ⟨c.plan, c.at_, c.phase, c.replica, c.round + 1, c.token, c.mix⟩ := by unfold bump; rw [w2]
 have hbk : CtlK p ⟨c.plan, c.at_, c.phase, c.replica, c.round + 1, c.token, c.mix⟩ := h.round _
 have hr := h.rng
 have hlt := h.lt
 have e : oneP p rs c ⟨5, tk, ix, dt⟩ = some c := by unfold oneP; simp [eb]
 unfold oneD
 rw [e, eb]
 clear e eb h
 refine startW (tm := [(0, _), (1, _), (2, _), (3, _)]) Tryz.func30 rfl Tryz.ntmps30 rfl rfl rfl rfl ?_
 repeat' (first
  | refine wA ?_
  | (refine wC ?_ ?_ <;> intro hc)
  | refine wB ?_ ?_
  | (with_reducible refine JL.block ?_)
  | ((with_reducible refine F_at ?_); refine eW (vs := [(_, _), (_, _)]) Tryz.results30 ?_; (focus (repeat' (first | exact oA | refine oB ?_ | refine oC ?_ ?_ | fail))))
  | ((with_reducible refine FO_at ?_); refine eO (vs := [(_, _), (_, _)]) Tryz.results30 ?_)
  | exact oM
  | fail)
 all_goals (clear hbk hs; first | rfl | ((repeat' split) <;> first | rfl | (exfalso; omega) | (exfalso; grind)) | trace_state)
theorem one1_fn (p : Prob) (rs : List Int) (c : CtlD) (tk ix : Int) (dt : ByteArray) (h : CtlK p c) (hs : setErr p rs = 0) (hl : c.plan.length ≤ 1000000) (hrd : -1000000000 ≤ c.round ∧ c.round ≤ 1000000000) : FnSound Tryz.prog 30 [.val true (probC p), .val false [.d (.sl 1 (dInts rs))], .val true (ctlC c), .val true [.d (.v (.int .i64 1)), .d (.v (.int .i64 tk)), .d (.v (.int .i64 ix)), .d (.v (.string dt))]] [] { vals := [(true, ctlC (oneD p rs c ⟨1, tk, ix, dt⟩)), (false, [.d (.v (.bool (oneP p rs c ⟨1, tk, ix, dt⟩).isSome))])] } := by
 have w2 : w64 (c.round + 1) = c.round + 1 := w64_is (by omega)
 have eb : bump c = ⟨c.plan, c.at_, c.phase, c.replica, c.round + 1, c.token, c.mix⟩ := by unfold bump; rw [w2]
 have hbk : CtlK p ⟨c.plan, c.at_, c.phase, c.replica, c.round + 1, c.token, c.mix⟩ := h.round _
 have hr := h.rng
 have hlt := h.lt
 have e : oneP p rs c ⟨1, tk, ix, dt⟩ = if ¬ ix = c.at_ then none else if c.phase = 0 then some (beginR p rs ⟨c.plan, c.at_, c.phase, c.replica, c.round + 1, c.token, c.mix⟩) else none := by unfold oneP; simp [eb]
 unfold oneD
 rw [e, eb]
 clear e eb h
 refine startW (tm := [(0, _), (1, _), (2, _), (3, _)]) Tryz.func30 rfl Tryz.ntmps30 rfl rfl rfl rfl ?_
 repeat' (first
  | ((with_reducible refine K_ca 65 ?_); refine zC (rbegin_fn p rs ⟨c.plan, c.at_, c.phase, c.replica, c.round + 1, c.token, c.mix⟩ hbk hs hl (by assumption)) ?_)
  | refine wA ?_
  | (refine wC ?_ ?_ <;> intro hc)
  | refine wB ?_ ?_
  | (with_reducible refine JL.block ?_)
  | ((with_reducible refine F_at ?_); refine eW (vs := [(_, _), (_, _)]) Tryz.results30 ?_; (focus (repeat' (first | exact oA | refine oB ?_ | refine oC ?_ ?_ | fail))))
  | ((with_reducible refine FO_at ?_); refine eO (vs := [(_, _), (_, _)]) Tryz.results30 ?_)
  | exact oM
  | fail)
 all_goals (clear hbk hs; first | rfl | ((repeat' split) <;> first | rfl | (exfalso; omega) | (exfalso; grind)) | trace_state)
theorem one2_fn (p : Prob) (rs : List Int) (c : CtlD) (tk ix : Int) (dt : ByteArray) (h : CtlK p c) (hs : setErr p rs = 0) (hl : c.plan.length ≤ 1000000) (hrd : -1000000000 ≤ c.round ∧ c.round ≤ 1000000000) : FnSound Tryz.prog 30 [.val true (probC p), .val false [.d (.sl 1 (dInts rs))], .val true (ctlC c), .val true [.d (.v (.int .i64 2)), .d (.v (.int .i64 tk)), .d (.v (.int .i64 ix)), .d (.v (.string dt))]] [] { vals := [(true, ctlC (oneD p rs c ⟨2, tk, ix, dt⟩)), (false, [.d (.v (.bool (oneP p rs c ⟨2, tk, ix, dt⟩).isSome))])] } := by
 have w2 : w64 (c.round + 1) = c.round + 1 := w64_is (by omega)
 have eb : bump c = ⟨c.plan, c.at_, c.phase, c.replica, c.round + 1, c.token, c.mix⟩ := by unfold bump; rw [w2]
 have hbk : CtlK p ⟨c.plan, c.at_, c.phase, c.replica, c.round + 1, c.token, c.mix⟩ := h.round _
 have hr := h.rng
 have hlt := h.lt
 have e : oneP p rs c ⟨2, tk, ix, dt⟩ = if ¬ ix = c.at_ then none else if c.phase = 1 ∨ c.phase = 4 then some (doneR p ⟨c.plan, c.at_, c.phase, c.replica, c.round + 1, c.token, c.mix⟩) else none := by unfold oneP; simp [eb]
 unfold oneD
 rw [e, eb]
 clear e eb h
 refine startW (tm := [(0, _), (1, _), (2, _), (3, _)]) Tryz.func30 rfl Tryz.ntmps30 rfl rfl rfl rfl ?_
 repeat' (first
  | ((with_reducible refine K_ca 66 ?_); refine zC (rdone_fn p ⟨c.plan, c.at_, c.phase, c.replica, c.round + 1, c.token, c.mix⟩ hbk hl (by show ¬ c.phase = 6; omega)) ?_)
  | refine wA ?_
  | (refine wC ?_ ?_ <;> intro hc)
  | refine wB ?_ ?_
  | (with_reducible refine JL.block ?_)
  | ((with_reducible refine F_at ?_); refine eW (vs := [(_, _), (_, _)]) Tryz.results30 ?_; (focus (repeat' (first | exact oA | refine oB ?_ | refine oC ?_ ?_ | fail))))
  | ((with_reducible refine FO_at ?_); refine eO (vs := [(_, _), (_, _)]) Tryz.results30 ?_)
  | exact oM
  | fail)
 all_goals (clear hbk hs; first | rfl | ((repeat' split) <;> first | rfl | (exfalso; omega) | (exfalso; grind)) | trace_state)
theorem one3_fn (p : Prob) (rs : List Int) (c : CtlD) (tk ix : Int) (dt : ByteArray) (h : CtlK p c) (hs : setErr p rs = 0) (hl : c.plan.length ≤ 1000000) (hrd : -1000000000 ≤ c.round ∧ c.round ≤ 1000000000) : FnSound Tryz.prog 30 [.val true (probC p), .val false [.d (.sl 1 (dInts rs))], .val true (ctlC c), .val true [.d (.v (.int .i64 3)), .d (.v (.int .i64 tk)), .d (.v (.int .i64 ix)), .d (.v (.string dt))]] [] { vals := [(true, ctlC (oneD p rs c ⟨3, tk, ix, dt⟩)), (false, [.d (.v (.bool (oneP p rs c ⟨3, tk, ix, dt⟩).isSome))])] } := by
 have w2 : w64 (c.round + 1) = c.round + 1 := w64_is (by omega)
 have eb : bump c = ⟨c.plan, c.at_, c.phase, c.replica, c.round + 1, c.token, c.mix⟩ := by unfold bump; rw [w2]
 have hbk : CtlK p ⟨c.plan, c.at_, c.phase, c.replica, c.round + 1, c.token, c.mix⟩ := h.round _
 have hr := h.rng
 have hlt := h.lt
 have e : oneP p rs c ⟨3, tk, ix, dt⟩ = if ¬ ix = c.at_ then none else if c.phase = 1 ∧ (c.plan.getD c.at_.toNat nilS).kind = 1 then some ⟨c.plan, c.at_, 3, c.replica, c.round + 1, c.token, c.mix⟩ else none := by unfold oneP; simp [eb, present]
 unfold oneD
 rw [e, eb]
 clear e eb h
 refine startW (tm := [(0, _), (1, _), (2, _), (3, _)]) Tryz.func30 rfl Tryz.ntmps30 rfl rfl rfl rfl ?_
 repeat' (first
  | refine wA ?_
  | (refine wC ?_ ?_ <;> intro hc)
  | refine wB ?_ ?_
  | (with_reducible refine JL.block ?_)
  | ((with_reducible refine F_at ?_); refine eW (vs := [(_, _), (_, _)]) Tryz.results30 ?_; (focus (repeat' (first | exact oA | refine oB ?_ | refine oC ?_ ?_ | fail))))
  | ((with_reducible refine FO_at ?_); refine eO (vs := [(_, _), (_, _)]) Tryz.results30 ?_)
  | exact oM
  | fail)
 all_goals (clear hbk hs; first | rfl | ((repeat' split) <;> first | rfl | (exfalso; omega) | (exfalso; grind)) | trace_state)
theorem one4_fn (p : Prob) (rs : List Int) (c : CtlD) (tk ix : Int) (dt : ByteArray) (h : CtlK p c) (hs : setErr p rs = 0) (hl : c.plan.length ≤ 1000000) (hrd : -1000000000 ≤ c.round ∧ c.round ≤ 1000000000) : FnSound Tryz.prog 30 [.val true (probC p), .val false [.d (.sl 1 (dInts rs))], .val true (ctlC c), .val true [.d (.v (.int .i64 4)), .d (.v (.int .i64 tk)), .d (.v (.int .i64 ix)), .d (.v (.string dt))]] [] { vals := [(true, ctlC (oneD p rs c ⟨4, tk, ix, dt⟩)), (false, [.d (.v (.bool (oneP p rs c ⟨4, tk, ix, dt⟩).isSome))])] } := by
 have w2 : w64 (c.round + 1) = c.round + 1 := w64_is (by omega)
 have eb : bump c = ⟨c.plan, c.at_, c.phase, c.replica, c.round + 1, c.token, c.mix⟩ := by unfold bump; rw [w2]
 have hbk : CtlK p ⟨c.plan, c.at_, c.phase, c.replica, c.round + 1, c.token, c.mix⟩ := h.round _
 have hr := h.rng
 have hlt := h.lt
 have hsa : c.phase = 3 → StepAt p ⟨4, (c.plan.getD c.at_.toNat nilS).idx, 0⟩ := fun a => abort_at (h.st (by omega)).1 (show ¬ (present c).kind = 3 by have := (h.ph2 (.inr a)).1; omega)
 have hmg := h.g
 have e : oneP p rs c ⟨4, tk, ix, dt⟩ = if ¬ ix = c.at_ then none else if c.phase = 3 then some ⟨c.plan, c.at_, 0, 0, c.round + 1, c.token, abortM p c.mix (c.plan.getD c.at_.toNat nilS).idx⟩ else none := by unfold oneP; simp [eb, present]
 unfold oneD
 rw [e, eb]
 clear e eb h
 refine startW (tm := [(0, _), (1, _), (2, _), (3, _)]) Tryz.func30 rfl Tryz.ntmps30 rfl rfl rfl rfl ?_
 repeat' (first
  | ((with_reducible refine K_ca 67 ?_); refine zC (raborted_fn p c.mix (c.plan.getD c.at_.toNat nilS).idx hmg (hsa (by assumption))) ?_)
  | refine wA ?_
  | (refine wC ?_ ?_ <;> intro hc)
  | refine wB ?_ ?_
  | (with_reducible refine JL.block ?_)
  | ((with_reducible refine F_at ?_); refine eW (vs := [(_, _), (_, _)]) Tryz.results30 ?_; (focus (repeat' (first | exact oA | refine oB ?_ | refine oC ?_ ?_ | fail))))
  | ((with_reducible refine FO_at ?_); refine eO (vs := [(_, _), (_, _)]) Tryz.results30 ?_)
  | exact oM
  | fail)
 all_goals (clear hbk hs hsa hmg; first | rfl | ((repeat' split) <;> first | rfl | (exfalso; omega) | (exfalso; grind)) | trace_state)
theorem oneX_fn (p : Prob) (rs : List Int) (c : CtlD) (k tk ix : Int) (dt : ByteArray) (h : CtlK p c) (hs : setErr p rs = 0) (hl : c.plan.length ≤ 1000000) (hrd : -1000000000 ≤ c.round ∧ c.round ≤ 1000000000) (hk : ¬ k = 5 ∧ ¬ k = 1 ∧ ¬ k = 2 ∧ ¬ k = 3 ∧ ¬ k = 4) : FnSound Tryz.prog 30 [.val true (probC p), .val false [.d (.sl 1 (dInts rs))], .val true (ctlC c), .val true [.d (.v (.int .i64 k)), .d (.v (.int .i64 tk)), .d (.v (.int .i64 ix)), .d (.v (.string dt))]] [] { vals := [(true, ctlC (oneD p rs c ⟨k, tk, ix, dt⟩)), (false, [.d (.v (.bool (oneP p rs c ⟨k, tk, ix, dt⟩).isSome))])] } := by
 have w2 : w64 (c.round + 1) = c.round + 1 := w64_is (by omega)
 have eb : bump c = ⟨c.plan, c.at_, c.phase, c.replica, c.round + 1, c.token, c.mix⟩ := by unfold bump; rw [w2]
 have e : oneP p rs c ⟨k, tk, ix, dt⟩ = none := by unfold oneP; simp [hk]
 unfold oneD
 rw [e, eb]
 clear e eb
 have d5 : decide (k = 5) = false := decide_eq_false hk.1
 refine startW (tm := [(0, _), (1, _), (2, _), (3, _)]) Tryz.func30 rfl Tryz.ntmps30 rfl rfl rfl rfl ?_
 repeat' (first
  | refine wA ?_
  | (refine wC ?_ ?_ <;> intro hc)
  | refine wB ?_ ?_
  | (with_reducible refine JL.block ?_)
  | ((with_reducible refine F_at ?_); refine eW (vs := [(_, _), (_, _)]) Tryz.results30 ?_; (focus (repeat' (first | exact oA | refine oB ?_ | refine oC ?_ ?_ | fail))))
  | ((with_reducible refine FO_at ?_); refine eO (vs := [(_, _), (_, _)]) Tryz.results30 ?_)
  | exact oM
  | fail)
 all_goals first | rfl | (exfalso; omega) | ((repeat' split) <;> first | rfl | (exfalso; omega) | (exfalso; grind)) | trace_state
theorem one_fn (p : Prob) (rs : List Int) (c : CtlD) (x : EntD) (h : CtlK p c) (hs : setErr p rs = 0) (hl : c.plan.length ≤ 1000000) (hrd : -1000000000 ≤ c.round ∧ c.round ≤ 1000000000) : FnSound Tryz.prog 30 [.val true (probC p), .val false [.d (.sl 1 (dInts rs))], .val true (ctlC c), .val true ((entRow x).map .d)] [] { vals := [(true, ctlC (oneD p rs c x)), (false, [.d (.v (.bool (oneP p rs c x).isSome))])] } := by
 obtain ⟨k, tk, ix, dt⟩ := x
 by_cases k5 : k = 5
 ·subst k5; exact one5_fn p rs c tk ix dt h hs hl hrd
 by_cases k1 : k = 1
 ·subst k1; exact one1_fn p rs c tk ix dt h hs hl hrd
 by_cases k2 : k = 2
 ·subst k2; exact one2_fn p rs c tk ix dt h hs hl hrd
 by_cases k3 : k = 3
 ·subst k3; exact one3_fn p rs c tk ix dt h hs hl hrd
 by_cases k4 : k = 4
 ·subst k4; exact one4_fn p rs c tk ix dt h hs hl hrd
 exact oneX_fn p rs c k tk ix dt h hs hl hrd ⟨k5, k1, k2, k3, k4⟩
end Go.Proofs.YtbdjcgjdmhgnmaaGreat

namespace Go.Proofs.YtbdjcgjdmhgnmaaGreat
open Go Go.RowKit
set_option maxRecDepth 100000
set_option maxHeartbeats 8000000
set_option linter.unusedSimpArgs false
set_option linter.unusedVariables false
theorem replay_fn (p : Prob) (rs : List Int) (l : List StepD) (es : List EntD) (hs : setErr p rs = 0) (hc0 : checkP p l = true) (hl : l.length ≤ 1000000) (he : es.length ≤ 1000) : FnSound Tryz.prog 12 [.val true (probC p), .val false [.d (.sl 1 (dInts rs))], .val false [.d (.sl 3 (dSteps l))], .val false [.d (.sl 4 (dEnts es))]] [] { vals := [(true, ctlC (replayP p rs l es).1), (false, [.d (.v (.int .i64 (replayP p rs l es).2))])] } := by
 obtain ⟨n1, n2, n3, n4⟩ := newP_k hs hc0
 have hnf := new_fn p rs l hs hc0 hl
 have e : replayP p rs l es = replayL p rs (newP p rs l).1 es := by unfold replayP; rw [if_neg (by simpa using n4)]
 rw [e]
 generalize (newP p rs l).1 = c0 at hnf n1 n2 n3 ⊢
 refine startW (tm := [(0, _), (1, _), (2, _), (3, _)]) Tryz.func12 rfl Tryz.ntmps12 rfl rfl rfl rfl ?_
 repeat' (first
  | ((with_reducible refine rgn 7 700 ?_ ?_); (focus exact rfl))
  | ((with_reducible refine rgn 8 800 ?_ ?_); (focus exact rfl))
  | ((with_reducible refine rgn 9 900 ?_ ?_); (focus exact rfl))
  | ((with_reducible refine rgn 10 1000 ?_ ?_); (focus exact rfl))
  | ((with_reducible refine rgn 6 1100 ?_ ?_); (focus exact rfl))
  | ((with_reducible refine K_ca 29 ?_); refine zC (hnf) ?_)
  | ((with_reducible refine K_ca 30 ?_); refine zC (one_fn p rs y.2 (es.getD y.1 nilE) hy.2.1 hs (by rw [hy.2.2.1]; exact hl) (by omega)) ?_)
  | ((with_reducible refine blk_at (id := 0) ?_); ((with_reducible refine JL.loopW 0 599 (fun (y : Nat × CtlD) tm => (12, .one false [.d (.v (.int .i64 ((y.1 : Int))))]) :: tm) (fun (y : Nat × CtlD) bo => ((448, 200), some (.st 44 [.d (.sl 3 ((dSteps y.2.plan))), .d (.v (.int .i64 (y.2.at_))), .d (.v (.int .i64 (y.2.phase))), .d (.v (.int .i64 (y.2.replica))), .d (.v (.int .i64 (y.2.round))), .d (.v (.int .i64 (y.2.token))), .d (.sl 1 ((dInts y.2.mix.base))), .d (.sl 1 ((dInts y.2.mix.next))), .d (.sl 1 ((dSets y.2.mix.held)))])) :: bo) (fun (y : Nat × CtlD) => y.1 ≤ es.length ∧ CtlK p y.2 ∧ y.2.plan = l ∧ (0 ≤ y.2.round ∧ y.2.round ≤ y.1) ∧ replayL p rs y.2 (es.drop y.1) = replayL p rs c0 es) (fun (y : Nat × CtlD) => es.length - y.1) ((0, c0)) ?_ (fun y hy => ?_) ?_); (focus (apply SubW [] rfl ?_ ?_ rfl ?_; (repeat' (first | exact kA | refine kB ?_ | refine kC ?_ ?_ | exact kD | fail))))))
  | ((with_reducible refine round_next (i := y) ((y.1 + 1, oneD p rs y.2 (es.getD y.1 nilE))) ?_ ?_ ?_); (focus (apply SubW [] rfl ?_ ?_ rfl ?_; (repeat' (first | exact kA | refine kB ?_ | refine kC ?_ ?_ | exact kD | fail)))))
  | refine wA ?_
  | (refine wC ?_ ?_ <;> intro hc)
  | refine wB ?_ ?_
  | (with_reducible refine JL.block ?_)
  | ((with_reducible refine F_at ?_); refine eW (vs := [(_, _), (_, _)]) Tryz.results12 ?_; (focus (repeat' (first | exact oA | refine oB ?_ | refine oC ?_ ?_ | fail))))
  | ((with_reducible refine FO_at ?_); refine eO (vs := [(_, _), (_, _)]) Tryz.results12 ?_)
  | exact oM
  | fail)
 all_goals first
  | rfl
  | (rw [replay_err (k := y.1) (by omega) hy.2.2.2.2 (by simpa using hc)] <;> rfl)
  | (have hn := replay_next (k := y.1) (by omega) hy.2.2.2.2 (by simpa using hc); have hi := replay_inv hy.2.1 hy.2.2.1 hl hy.2.2.2.1 (by omega) hn.2; exact ⟨by dsimp only; omega, hi.1, hi.2.1, hi.2.2, hn.1⟩)
  | (rw [← hy.2.2.2.2, List.drop_eq_nil_of_le (by omega)] <;> rfl)
  | exact ⟨Nat.zero_le _, n1, n2, by dsimp only; omega, rfl⟩
  | trace_state
theorem longest_fn (p : Prob) (rs : List Int) (l : List StepD) (es : List EntD) (hs : setErr p rs = 0) (hc0 : checkP p l = true) (hl : l.length ≤ 1000000) (he : es.length ≤ 1000) : FnSound Tryz.prog 15 [.val true (probC p), .val false [.d (.sl 1 (dInts rs))], .val false [.d (.sl 3 (dSteps l))], .val false [.d (.sl 4 (dEnts es))]] [] { vals := [(false, [.d (.v (.int .i64 ((longL p rs (newP p rs l).1 es : Nat) : Int)))])] } := by
 obtain ⟨n1, n2, n3, n4⟩ := newP_k hs hc0
 have hle := longL_le (p := p) (rs := rs) (es := es) (c := (newP p rs l).1)
 have hr : ∀ k, (replayP p rs l (es.take k)).2 = (replayL p rs (newP p rs l).1 (es.take k)).2 := fun k => by unfold replayP; rw [if_neg (by simpa using n4)]
 have ht := fun k (hk : k ≤ es.length) => replayL_take (p := p) (rs := rs) (c := (newP p rs l).1) hk
 refine startW (tm := [(0, _), (1, _), (2, _), (3, _)]) Tryz.func15 rfl Tryz.ntmps15 rfl rfl rfl rfl ?_
 repeat' (first
  | ((with_reducible refine rgn 5 500 ?_ ?_); (focus exact rfl))
  | ((with_reducible refine rgn 6 600 ?_ ?_); (focus exact rfl))
  | ((with_reducible refine rgn 7 700 ?_ ?_); (focus exact rfl))
  | ((with_reducible refine rgn 4 800 ?_ ?_); (focus exact rfl))
  | ((with_reducible refine K_ca 12 ?_); refine zC (replay_fn p rs l (es.take (k + 1)) hs hc0 hl (by rw [List.length_take]; omega)) ?_)
  | ((with_reducible refine blk_at (id := 0) ?_); ((with_reducible refine JL.loopW 0 399 (fun (k : Nat) tm => (10, .one false [.d (.v (.int .i64 (((k : Int) + 1))))]) :: (9, .one false [.d (.v (.int .i64 (((min k (longL p rs (newP p rs l).1 es) : Nat) : Int))))]) :: tm) (fun (k : Nat) bo => bo) (fun (k : Nat) => k ≤ es.length) (fun (k : Nat) => es.length - k) (0) ?_ (fun k hk => ?_) ?_); (focus (apply SubW [] rfl ?_ ?_ rfl ?_; (repeat' (first | exact kA | refine kB ?_ | refine kC ?_ ?_ | exact kD | fail))))))
  | ((with_reducible refine round_next (i := k) (k + 1) ?_ ?_ ?_); (focus (apply SubW [] rfl ?_ ?_ rfl ?_; (repeat' (first | exact kA | refine kB ?_ | refine kC ?_ ?_ | exact kD | fail)))))
  | refine wA ?_
  | (refine wC ?_ ?_ <;> intro hc)
  | refine wB ?_ ?_
  | (with_reducible refine JL.block ?_)
  | ((with_reducible refine F_at ?_); refine eW (vs := [(_, _)]) Tryz.results15 ?_; (focus (repeat' (first | exact oA | refine oB ?_ | refine oC ?_ ?_ | fail))))
  | ((with_reducible refine FO_at ?_); refine eO (vs := [(_, _)]) Tryz.results15 ?_)
  | exact oM
  | fail)
 all_goals first
  | (have h := ht (k + 1) (by omega); have h2 := hr (k + 1); omega)
  | omega
  | trace_state
end Go.Proofs.YtbdjcgjdmhgnmaaGreat

namespace Go.Proofs.YtbdjcgjdmhgnmaaGreat
open Go Go.RowKit
set_option maxRecDepth 100000
set_option maxHeartbeats 8000000
set_option linter.unusedSimpArgs false
set_option linter.unusedVariables false
theorem replayL_ctl {p : Prob} {rs : List Int} {l : List StepD} (hl : l.length ≤ 1000000) : ∀ {es : List EntD} {c : CtlD}, CtlK p c → c.plan = l → (replayL p rs c es).1 = nilCtl ∨ (CtlK p (replayL p rs c es).1 ∧ (replayL p rs c es).1.plan = l)
 | [], c, h, hp => .inr ⟨h, hp⟩
 | x :: r, c, h, hp => by
  unfold replayL
  cases e : oneP p rs c x with
  | none => exact .inl rfl
  | some d =>
   obtain ⟨a1, a2, _⟩ := h.one (by rw [hp]; exact hl) e
   exact replayL_ctl hl a1 (a2.trans hp)
theorem replay_law (d : DraftD) (R ch : List Int) (es : List EntD) (hd : draftOK d) (hR : u8s R) (hch : u8s ch) : FnSound Tryz.prog 3 [.val true (caseC d R ch), .val false [.d (.sl 4 (dEnts es))]] [] { vals := [(false, [.d (.v (.bool true))])] } := by
 cases hk : caseOK d with
 | false =>
  have hof := past0_fn d R ch hd hk
  refine startW (tm := [(0, _), (1, _)]) Tryz.func3 rfl Tryz.ntmps3 rfl rfl rfl rfl ?_
  repeat' (first
   | ((with_reducible refine K_ca 8 ?_); refine zC (hof) ?_)
   | ((with_reducible refine K_ca 9 ?_); refine zC (awake_fn) ?_)
   | refine wA ?_
   | (refine wC ?_ ?_ <;> intro hc)
   | refine wB ?_ ?_
   | (with_reducible refine JL.block ?_)
   | ((with_reducible refine F_at ?_); refine eW (vs := [(_, _)]) Tryz.results3 ?_; (focus (repeat' (first | exact oA | refine oB ?_ | refine oC ?_ ?_ | fail))))
   | ((with_reducible refine FO_at ?_); refine eO (vs := [(_, _)]) Tryz.results3 ?_)
   | exact oM
   | fail)
  all_goals first | rfl | trace_state
 | true =>
  by_cases hc : ch.length ≤ 40
  ·have hof := past_fn d R ch hd hR hch hk hc
   by_cases h20 : es.length ≤ 20
   ·have h := hk
    unfold caseOK at h
    rw [Bool.and_eq_true, Bool.and_eq_true, decide_eq_true_eq] at h
    have hv := ofP_sound hd h.1
    obtain ⟨f1, f2, f3⟩ := find_check h.2.2
    have hs := reps_set hv hR
    obtain ⟨n1, n2, n3, n4⟩ := newP_k hs f1
    have hP := preplay_fn (ofP d) (repsP R (ofP d).vs.length) (findP (ofP d)).1 es hs f1 (by omega) (by omega)
    have hQ := replay_fn (ofP d) (repsP R (ofP d).vs.length) (findP (ofP d)).1 es hs f1 (by omega) (by omega)
    have hL := plongest_fn (ofP d) (repsP R (ofP d).vs.length) (findP (ofP d)).1 es hs f1 (by omega) (by omega)
    have hM := longest_fn (ofP d) (repsP R (ofP d).vs.length) (findP (ofP d)).1 es hs f1 (by omega) (by omega)
    have hq : (replayP (ofP d) (repsP R (ofP d).vs.length) (findP (ofP d)).1 es).1 = nilCtl ∨ (CtlK (ofP d) (replayP (ofP d) (repsP R (ofP d).vs.length) (findP (ofP d)).1 es).1 ∧ (replayP (ofP d) (repsP R (ofP d).vs.length) (findP (ofP d)).1 es).1.plan = (findP (ofP d)).1) := by
     unfold replayP
     rw [if_neg (by simpa using n4)]
     exact replayL_ctl (by omega) n1 n2
    have hS := same_fn (replayP (ofP d) (repsP R (ofP d).vs.length) (findP (ofP d)).1 es).1 (by rcases hq with e | e; rw [e]; decide; rw [e.2]; omega) (by rcases hq with e | e; rw [e]; exact ⟨by decide, by decide, by decide⟩; exact e.1.g.few) (by rcases hq with e | e; rw [e]; exact (fun x hx => by cases hx); exact e.1.g.u)
    clear hq n1 n2 n3 n4 hs
    generalize replayP (ofP d) (repsP R (ofP d).vs.length) (findP (ofP d)).1 es = q at hP hQ hS
    generalize (longL (ofP d) (repsP R (ofP d).vs.length) (newP (ofP d) (repsP R (ofP d).vs.length) (findP (ofP d)).1).1 es : Int) = n at hL hM
    refine startW (tm := [(0, _), (1, _)]) Tryz.func3 rfl Tryz.ntmps3 rfl rfl rfl rfl ?_
    repeat' (first
     | ((with_reducible refine K_ca 8 ?_); refine zC (hof) ?_)
     | ((with_reducible refine K_ca 9 ?_); refine zC (awake_fn) ?_)
     | ((with_reducible refine K_ca 11 ?_); refine zS (cloneEnts_fn es (by omega)) ?_)
     | ((with_reducible refine K_ca 10 ?_); refine zC (hP) ?_)
     | ((with_reducible refine K_ca 12 ?_); refine zC (hQ) ?_)
     | ((with_reducible refine K_ca 13 ?_); refine zC (hL) ?_)
     | ((with_reducible refine K_ca 14 ?_); refine zC (hS) ?_)
     | ((with_reducible refine K_ca 15 ?_); refine zC (hM) ?_)
     | refine wA ?_
     | (refine wC ?_ ?_ <;> intro hc)
     | refine wB ?_ ?_
     | (with_reducible refine JL.block ?_)
     | ((with_reducible refine F_at ?_); refine eW (vs := [(_, _)]) Tryz.results3 ?_; (focus (repeat' (first | exact oA | refine oB ?_ | refine oC ?_ ?_ | fail))))
     | ((with_reducible refine FO_at ?_); refine eO (vs := [(_, _)]) Tryz.results3 ?_)
     | exact oM
     | fail)
    all_goals first | rfl | (exfalso; omega) | (exfalso; exact hc rfl) | (simp; done) | trace_state
   ·refine startW (tm := [(0, _), (1, _)]) Tryz.func3 rfl Tryz.ntmps3 rfl rfl rfl rfl ?_
    repeat' (first
     | ((with_reducible refine K_ca 8 ?_); refine zC (hof) ?_)
     | ((with_reducible refine K_ca 9 ?_); refine zC (awake_fn) ?_)
     | refine wA ?_
     | (refine wC ?_ ?_ <;> intro hc)
     | refine wB ?_ ?_
     | (with_reducible refine JL.block ?_)
     | ((with_reducible refine F_at ?_); refine eW (vs := [(_, _)]) Tryz.results3 ?_; (focus (repeat' (first | exact oA | refine oB ?_ | refine oC ?_ ?_ | fail))))
     | ((with_reducible refine FO_at ?_); refine eO (vs := [(_, _)]) Tryz.results3 ?_)
     | exact oM
     | fail)
    all_goals first | rfl | (exfalso; omega) | trace_state
  ·have hof := past1_fn d R ch hd hR hk hc
   refine startW (tm := [(0, _), (1, _)]) Tryz.func3 rfl Tryz.ntmps3 rfl rfl rfl rfl ?_
   repeat' (first
    | ((with_reducible refine K_ca 8 ?_); refine zC (hof) ?_)
    | ((with_reducible refine K_ca 9 ?_); refine zC (awake_fn) ?_)
    | refine wA ?_
    | (refine wC ?_ ?_ <;> intro hc)
    | refine wB ?_ ?_
    | (with_reducible refine JL.block ?_)
    | ((with_reducible refine F_at ?_); refine eW (vs := [(_, _)]) Tryz.results3 ?_; (focus (repeat' (first | exact oA | refine oB ?_ | refine oC ?_ ?_ | fail))))
    | ((with_reducible refine FO_at ?_); refine eO (vs := [(_, _)]) Tryz.results3 ?_)
    | exact oM
    | fail)
   all_goals first | rfl | (exfalso; omega) | trace_state
end Go.Proofs.YtbdjcgjdmhgnmaaGreat

namespace Go.Proofs.YtbdjcgjdmhgnmaaGreat
open Go.ChangeShapes Go.WideShapes Go.ChangeAt Go.RowKit Go.Joins Go.Deep
set_option linter.unusedSimpArgs false
set_option linter.unusedVariables false
set_option maxRecDepth 100000 in
theorem recoveryReplay_lifted (os : Os) (started : os.Started) (H : Type) (enc : TypeId × Value → H) :
    ReturnsInHanded {} Tryz.checked os 3 .any (Rows.recoveryReplaySpec.pre6 enc Tryz.prog Tryz.f3 Rows.recoveryReplayRow.domain false) (Rows.recoveryReplaySpec.post enc Tryz.prog Tryz.f3 false true false false) := by
  refine returnsInHanded_of_change_sized (C := Tryz.checked) own started (by kernel_rfl) Tryz.func3
    (ChangeSpec.witness6 (enc := enc) (C := Tryz.checked) false ⟨#[], #[.agg #[.slice none 0 0, .slice none 0 0, .slice none 0 0, .slice none 0 0, .slice none 0 0, .slice none 0 0], .slice none 0 0], []⟩ 8 (by kernel_rfl) (by kernel_rfl) (by kernel_rfl) (by kernel_rfl)) ?_
  intro W base args ds gs before hval hW hcnd hsz _
  have hW' := hW
  obtain ⟨p, q, hA0, hV, rfl, hfz, hnd⟩ := hW
  have hval' : ∀ (j : Nat) t v, Tryz.f3.params[j]? = some t → args[j]? = some v → Value.okWide Tryz.prog W .any base t v := hval
  have hA : DataW.TrodAll enc Tryz.prog W 0 (fun _ => true) true Tryz.f3.params.toList args.toList ds p := hA0
  rw [Tryz.params3] at hA hval'
  obtain ⟨v0, vs0, d0, ds0, p0, q0, hargs, rfl, rfl, h0, r0⟩ := trodAll_cons hA
  obtain ⟨v1, vs1, d1, ds1, p1, q1, rfl, rfl, rfl, h1, r1⟩ := trodAll_cons r0
  obtain ⟨rfl, rfl, rfl⟩ := trodAll_nil r1
  obtain rfl : args = #[v0, v1] := by cases args; simp_all
  obtain ⟨x, R, ch, a0, k0, k1, k2⟩ := open_case (S := S0) S0_all (hval' 0 27 v0 rfl rfl) (sz_arg hsz (j := 0) (t := 27) rfl rfl) h0
  obtain ⟨es, a1⟩ := open_entsA (S := S0) S0_all (hval' 1 28 v1 rfl rfl) (sz_arg hsz (j := 1) (t := 28) rfl rfl) h1
  have hC := calls_of_fn (xs := [(true, caseC x R ch), (false, [.d (.sl 4 (dEnts es))])]) (vals := [v0, v1]) (w := W) (replay_law x R ch es k0 k1 k2) rfl (fun i y hy => match i, hy with
    | 0, hy => by cases hy; exact a0 ρ0 _
    | 1, hy => by cases hy; exact a1 ρ0 _
    | _ + 2, hy => by cases hy)
  refine (hC).mono fun e W' ⟨he, hb⟩ => ⟨_, he, law_post rfl laid (by kernel_rfl) (by kernel_rfl) Tryz.underlying4 hW' rfl hb⟩
theorem recoveryReplay_holds : Rows.RecoveryReplaySaid :=
 OpenClaim.holds_of_wide 3 Tryz.f3 rfl rfl rfl rfl rfl rfl rfl ⟨rfl, rfl, rfl, rfl, rfl⟩ rfl rfl rfl rfl rfl (by kernel_rfl) Tryz.func3 (by kernel_rfl)
  (of_decide_eq_true (by kernel_rfl)) (by unfold Func.isWrapper; first | (rw [if_pos (by decide +kernel)]; kernel_rfl) | (rw [if_neg (by decide +kernel)]; exact ⟨rfl, rfl⟩))
  (fun os started H enc _ => recoveryReplay_lifted os started H enc)
#print axioms recoveryReplay_holds
end Go.Proofs.YtbdjcgjdmhgnmaaGreat

