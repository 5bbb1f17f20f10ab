/- Rules of runs and contracts of functions, for the claims of one seat. -/
import Derived.Test.YtngjhkgcfabciaaGreatQA15
import Derived.Test.YtngjhkgcfabciaaGreatQA25
namespace Go.Proofs.YtngjhkgcfabciaaGreat
open Go Go.RowKit
set_option maxRecDepth 100000
set_option maxHeartbeats 8000000
set_option linter.unusedSimpArgs false
set_option linter.unusedVariables false
theorem next1_fn (p : Prob) (rs : List Int) (c : CtlD) (tk rd rp vr tb : Int) (pa : Bool) (h : CtlK p c) (hs : setErr p rs = 0) (hl : c.plan.length ≤ 1000000) (hrd : -1000000000 ≤ c.round ∧ c.round ≤ 1000000000) (hrp : -1000000000 ≤ c.replica ∧ c.replica ≤ 1000000000) : FnSound Tryz.prog 25 [.val true (probC p), .val false [.d (.sl 1 (dInts rs))], .val true (ctlC c), .val true [.d (.v (.int .i64 1)), .d (.v (.int .i64 tk)), .d (.v (.int .i64 rd)), .d (.v (.int .i64 rp)), .d (.v (.int .i64 vr)), .d (.v (.bool pa)), .d (.v (.int .i64 tb))]] [] { vals := [(true, ctlC (nextP p rs c ⟨1, tk, rd, rp, vr, pa, tb⟩).1), (false, [.d (.sl 10 (dActs (nextP p rs c ⟨1, tk, rd, rp, vr, pa, tb⟩).2))])] } := by
 have e : nextP p rs c ⟨1, tk, rd, rp, vr, pa, tb⟩ = if tk ≤ c.token then (c, []) else tickP p rs { c with token := tk } := by unfold nextP; simp
 rw [e]
 refine startW (tm := [(0, _), (1, _), (2, _), (3, _)]) Tryz.func25 rfl Tryz.ntmps25 rfl rfl rfl rfl ?_
 repeat' (first
 |(with_reducible refine K_ca 48 ?_); refine zC (tickA_fn p rs { c with token := tk } (h.token tk) hs hl hrd) ?_
 |refine wA ?_
 |(refine wC ?_ ?_ <;> intro hc)
 |refine wB ?_ ?_
 |(with_reducible refine JL.block ?_)
 |(with_reducible refine F_at ?_); refine eW (vs := [(_, _), (_, _)]) Tryz.results25 ?_; (focus (repeat' (first | exact oA | refine oB ?_ | refine oC ?_ ?_ | fail)))
 |exact oM
 |fail)
 all_goals (clear h hs hrp hrd; first | rfl | ((repeat' split) <;> first | rfl | (exfalso; omega) | (exfalso; grind)) | trace_state)
theorem next2_fn (p : Prob) (rs : List Int) (c : CtlD) (tk rd rp vr tb : Int) (pa : Bool) (h : CtlK p c) (hs : setErr p rs = 0) (hl : c.plan.length ≤ 1000000) (hrd : -1000000000 ≤ c.round ∧ c.round ≤ 1000000000) (hrp : -1000000000 ≤ c.replica ∧ c.replica ≤ 1000000000) : FnSound Tryz.prog 25 [.val true (probC p), .val false [.d (.sl 1 (dInts rs))], .val true (ctlC c), .val true [.d (.v (.int .i64 2)), .d (.v (.int .i64 tk)), .d (.v (.int .i64 rd)), .d (.v (.int .i64 rp)), .d (.v (.int .i64 vr)), .d (.v (.bool pa)), .d (.v (.int .i64 tb))]] [] { vals := [(true, ctlC (nextP p rs c ⟨2, tk, rd, rp, vr, pa, tb⟩).1), (false, [.d (.sl 10 (dActs (nextP p rs c ⟨2, tk, rd, rp, vr, pa, tb⟩).2))])] } := by
 have e : nextP p rs c ⟨2, tk, rd, rp, vr, pa, tb⟩ = if c.token = 0 then (c, []) else ({ c with token := 0 }, []) := by unfold nextP; simp
 rw [e]
 refine startW (tm := [(0, _), (1, _), (2, _), (3, _)]) Tryz.func25 rfl Tryz.ntmps25 rfl rfl rfl rfl ?_
 repeat' (first
 |refine wA ?_
 |(refine wC ?_ ?_ <;> intro hc)
 |refine wB ?_ ?_
 |(with_reducible refine JL.block ?_)
 |(with_reducible refine F_at ?_); refine eW (vs := [(_, _), (_, _)]) Tryz.results25 ?_; (focus (repeat' (first | exact oA | refine oB ?_ | refine oC ?_ ?_ | fail)))
 |exact oM
 |fail)
 all_goals (clear h hs hrp hrd; first | rfl | ((repeat' split) <;> first | rfl | (exfalso; omega) | (exfalso; grind)) | trace_state)
theorem next3_fn (p : Prob) (rs : List Int) (c : CtlD) (tk rd rp vr tb : Int) (pa : Bool) (h : CtlK p c) (hs : setErr p rs = 0) (hl : c.plan.length ≤ 1000000) (hrd : -1000000000 ≤ c.round ∧ c.round ≤ 1000000000) (hrp : -1000000000 ≤ c.replica ∧ c.replica ≤ 1000000000) : FnSound Tryz.prog 25 [.val true (probC p), .val false [.d (.sl 1 (dInts rs))], .val true (ctlC c), .val true [.d (.v (.int .i64 3)), .d (.v (.int .i64 tk)), .d (.v (.int .i64 rd)), .d (.v (.int .i64 rp)), .d (.v (.int .i64 vr)), .d (.v (.bool pa)), .d (.v (.int .i64 tb))]] [] { vals := [(true, ctlC (nextP p rs c ⟨3, tk, rd, rp, vr, pa, tb⟩).1), (false, [.d (.sl 10 (dActs (nextP p rs c ⟨3, tk, rd, rp, vr, pa, tb⟩).2))])] } := by
 have e : nextP p rs c ⟨3, tk, rd, rp, vr, pa, tb⟩ = if c.token = 0 then (c, []) else tickP p rs c := by unfold nextP; simp
 rw [e]
 refine startW (tm := [(0, _), (1, _), (2, _), (3, _)]) Tryz.func25 rfl Tryz.ntmps25 rfl rfl rfl rfl ?_
 repeat' (first
 |(with_reducible refine K_ca 48 ?_); refine zC (tickA_fn p rs c h hs hl hrd) ?_
 |refine wA ?_
 |(refine wC ?_ ?_ <;> intro hc)
 |refine wB ?_ ?_
 |(with_reducible refine JL.block ?_)
 |(with_reducible refine F_at ?_); refine eW (vs := [(_, _), (_, _)]) Tryz.results25 ?_; (focus (repeat' (first | exact oA | refine oB ?_ | refine oC ?_ ?_ | fail)))
 |exact oM
 |fail)
 all_goals (clear h hs hrp hrd; first | rfl | ((repeat' split) <;> first | rfl | (exfalso; omega) | (exfalso; grind)) | trace_state)
theorem next5_fn (p : Prob) (rs : List Int) (c : CtlD) (tk rd rp vr tb : Int) (pa : Bool) (h : CtlK p c) (hs : setErr p rs = 0) (hl : c.plan.length ≤ 1000000) (hrd : -1000000000 ≤ c.round ∧ c.round ≤ 1000000000) (hrp : -1000000000 ≤ c.replica ∧ c.replica ≤ 1000000000) : FnSound Tryz.prog 25 [.val true (probC p), .val false [.d (.sl 1 (dInts rs))], .val true (ctlC c), .val true [.d (.v (.int .i64 5)), .d (.v (.int .i64 tk)), .d (.v (.int .i64 rd)), .d (.v (.int .i64 rp)), .d (.v (.int .i64 vr)), .d (.v (.bool pa)), .d (.v (.int .i64 tb))]] [] { vals := [(true, ctlC (nextP p rs c ⟨5, tk, rd, rp, vr, pa, tb⟩).1), (false, [.d (.sl 10 (dActs (nextP p rs c ⟨5, tk, rd, rp, vr, pa, tb⟩).2))])] } := by
 have w2 : w64 (c.round + 1) = c.round + 1 := w64_is (by omega)
 have hK : c.phase = 2 → CtlK p ⟨c.plan, c.at_, 3, c.replica, c.round + 1, c.token, c.mix⟩ := fun a => ctlK_mk h.plan ⟨h.rng.1, h.lt (by omega)⟩ (.inr (.inr (.inr (.inl ⟨rfl, h.ph2 (.inl a)⟩))))
 have hra := repeatP_len ⟨c.plan, c.at_, 3, c.replica, c.round + 1, c.token, c.mix⟩
 have eb : bump c = ⟨c.plan, c.at_, c.phase, c.replica, c.round + 1, c.token, c.mix⟩ := by unfold bump; rw [w2]
 have e : nextP p rs c ⟨5, tk, rd, rp, vr, pa, tb⟩ = if c.token = 0 then (c, []) else if rd = c.round ∧ c.phase = 2 then (if pa = true then (doneC p c, [entA c 2]) else (⟨c.plan, c.at_, 3, c.replica, c.round + 1, c.token, c.mix⟩, entA c 3 :: repeatP ⟨c.plan, c.at_, 3, c.replica, c.round + 1, c.token, c.mix⟩)) else (c, []) := by unfold nextP; simp [eb]
 rw [e]
 refine startW (tm := [(0, _), (1, _), (2, _), (3, _)]) Tryz.func25 rfl Tryz.ntmps25 rfl rfl rfl rfl ?_
 repeat' (first
 |(with_reducible refine K_ca 50 ?_); refine zC (repeated_fn p ⟨c.plan, c.at_, 3, c.replica, c.round + 1, c.token, c.mix⟩ (hK (by assumption)) hl) ?_
 |(with_reducible refine K_ca 52 ?_); refine zC (done_fn p c h hl (by omega) hrd) ?_
 |(with_reducible refine K_ca 53 ?_); refine zE (entry_fn c 3 hrd) ?_
 |refine wA ?_
 |(refine wC ?_ ?_ <;> intro hc)
 |refine wB ?_ ?_
 |(with_reducible refine JL.block ?_)
 |(with_reducible refine F_at ?_); refine eW (vs := [(_, _), (_, _)]) Tryz.results25 ?_; (focus (repeat' (first | exact oA | refine oB ?_ | refine oC ?_ ?_ | fail)))
 |exact oM
 |fail)
 all_goals (clear h hs hrp hrd; first | rfl | ((repeat' split) <;> first | rfl | (exfalso; omega) | (exfalso; grind)) | trace_state)
theorem next6_fn (p : Prob) (rs : List Int) (c : CtlD) (tk rd rp vr tb : Int) (pa : Bool) (h : CtlK p c) (hs : setErr p rs = 0) (hl : c.plan.length ≤ 1000000) (hrd : -1000000000 ≤ c.round ∧ c.round ≤ 1000000000) (hrp : -1000000000 ≤ c.replica ∧ c.replica ≤ 1000000000) : FnSound Tryz.prog 25 [.val true (probC p), .val false [.d (.sl 1 (dInts rs))], .val true (ctlC c), .val true [.d (.v (.int .i64 6)), .d (.v (.int .i64 tk)), .d (.v (.int .i64 rd)), .d (.v (.int .i64 rp)), .d (.v (.int .i64 vr)), .d (.v (.bool pa)), .d (.v (.int .i64 tb))]] [] { vals := [(true, ctlC (nextP p rs c ⟨6, tk, rd, rp, vr, pa, tb⟩).1), (false, [.d (.sl 10 (dActs (nextP p rs c ⟨6, tk, rd, rp, vr, pa, tb⟩).2))])] } := by
 have hlt := h.lt
 have hr := h.rng
 have e : nextP p rs c ⟨6, tk, rd, rp, vr, pa, tb⟩ = if c.token = 0 then (c, []) else if rd = c.round ∧ c.phase = 4 ∧ tb = (c.plan.getD c.at_.toNat nilS).idx then (doneC p c, [entA c 2]) else (c, []) := by unfold nextP; simp [present]
 rw [e]
 refine startW (tm := [(0, _), (1, _), (2, _), (3, _)]) Tryz.func25 rfl Tryz.ntmps25 rfl rfl rfl rfl ?_
 repeat' (first
 |(with_reducible refine K_ca 52 ?_); refine zC (done_fn p c h hl (by omega) hrd) ?_
 |refine wA ?_
 |(refine wC ?_ ?_ <;> intro hc)
 |refine wB ?_ ?_
 |(with_reducible refine JL.block ?_)
 |(with_reducible refine F_at ?_); refine eW (vs := [(_, _), (_, _)]) Tryz.results25 ?_; (focus (repeat' (first | exact oA | refine oB ?_ | refine oC ?_ ?_ | fail)))
 |exact oM
 |fail)
 all_goals (clear h hs hrp hrd; first | rfl | ((repeat' split) <;> first | rfl | (exfalso; omega) | (exfalso; grind)) | trace_state)
theorem next7_fn (p : Prob) (rs : List Int) (c : CtlD) (tk rd rp vr tb : Int) (pa : Bool) (h : CtlK p c) (hs : setErr p rs = 0) (hl : c.plan.length ≤ 1000000) (hrd : -1000000000 ≤ c.round ∧ c.round ≤ 1000000000) (hrp : -1000000000 ≤ c.replica ∧ c.replica ≤ 1000000000) : FnSound Tryz.prog 25 [.val true (probC p), .val false [.d (.sl 1 (dInts rs))], .val true (ctlC c), .val true [.d (.v (.int .i64 7)), .d (.v (.int .i64 tk)), .d (.v (.int .i64 rd)), .d (.v (.int .i64 rp)), .d (.v (.int .i64 vr)), .d (.v (.bool pa)), .d (.v (.int .i64 tb))]] [] { vals := [(true, ctlC (nextP p rs c ⟨7, tk, rd, rp, vr, pa, tb⟩).1), (false, [.d (.sl 10 (dActs (nextP p rs c ⟨7, tk, rd, rp, vr, pa, tb⟩).2))])] } := by
 have w2 : w64 (c.round + 1) = c.round + 1 := w64_is (by omega)
 have eb : bump c = ⟨c.plan, c.at_, c.phase, c.replica, c.round + 1, c.token, c.mix⟩ := by unfold bump; rw [w2]
 have e : nextP p rs c ⟨7, tk, rd, rp, vr, pa, tb⟩ = if c.token = 0 then (c, []) else if c.phase = 5 then (⟨c.plan, c.at_, 0, c.replica, c.round + 1, c.token, c.mix⟩, [entA c 4]) else (c, []) := by unfold nextP; simp [eb]
 rw [e]
 refine startW (tm := [(0, _), (1, _), (2, _), (3, _)]) Tryz.func25 rfl Tryz.ntmps25 rfl rfl rfl rfl ?_
 repeat' (first
 |(with_reducible refine K_ca 53 ?_); refine zE (entry_fn c 4 hrd) ?_
 |refine wA ?_
 |(refine wC ?_ ?_ <;> intro hc)
 |refine wB ?_ ?_
 |(with_reducible refine JL.block ?_)
 |(with_reducible refine F_at ?_); refine eW (vs := [(_, _), (_, _)]) Tryz.results25 ?_; (focus (repeat' (first | exact oA | refine oB ?_ | refine oC ?_ ?_ | fail)))
 |exact oM
 |fail)
 all_goals (clear h hs hrp hrd; first | rfl | ((repeat' split) <;> first | rfl | (exfalso; omega) | (exfalso; grind)) | trace_state)
end Go.Proofs.YtngjhkgcfabciaaGreat

