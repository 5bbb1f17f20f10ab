/- Rules of runs and contracts of functions, for the claims of one seat. -/
import Derived.Test.YtdpeoolildjohaaGreatDoorQA14
import Derived.Test.YtdpeoolildjohaaGreatDoorQA15
import Derived.Test.YtdpeoolildjohaaGreatDoorQA24
import Derived.Test.YtdpeoolildjohaaGreatDoorQA25
namespace Go.Proofs.YtdpeoolildjohaaGreatDoor
open Go Go.RowKit
set_option maxRecDepth 100000
set_option maxHeartbeats 8000000
set_option linter.unusedSimpArgs false
set_option linter.unusedVariables false
theorem mgate0_fn (p : Prob) (rs : List Int) (c : CtlD) (a : List ActD) (k tk rd rp vr tb : Int) (pa : Bool) (hn : ¬ c.phase = 2 ∨ ¬ rd = c.round) : FnSound Tryz.prog 98 [.io 124 (machC p rs c (1000, 0)), .val true [.d (.v (.int .i64 k)), .d (.v (.int .i64 tk)), .d (.v (.int .i64 rd)), .d (.v (.int .i64 rp)), .d (.v (.int .i64 vr)), .d (.v (.bool pa)), .d (.v (.int .i64 tb))]] (actB a) (mRes p rs c a) := by
 refine startK (tm := [(0, _), (1, _)]) (mBo p rs c a) Tryz.func98 rfl Tryz.ntmps98 rfl rfl rfl rfl ?_
 repeat' (first
 |refine wA ?_
 |(refine wC ?_ ?_ <;> intro hc)
 |refine wB ?_ ?_
 |(with_reducible refine JL.block ?_)
 |(with_reducible refine FK_at ?_); refine eK Tryz.results98 ?_
 |exact oM
 |fail)
 all_goals first | (exfalso; omega) | kernel_rfl
theorem mgate1_fn (p : Prob) (rs : List Int) (c : CtlD) (a : List ActD) (k tk rd rp vr tb : Int) (h : CtlK p c) (hv : PlanV p c.plan) (hs : setErr p rs = 0) (hl : c.plan.length ≤ 1000000) (hrd : -1000000000 ≤ c.round ∧ c.round ≤ 1000000000) (hla : a.length ≤ 800) (hp : c.phase = 2) (he : rd = c.round) : FnSound Tryz.prog 98 [.io 124 (machC p rs c (1000, 0)), .val true [.d (.v (.int .i64 k)), .d (.v (.int .i64 tk)), .d (.v (.int .i64 rd)), .d (.v (.int .i64 rp)), .d (.v (.int .i64 vr)), .d (.v (.bool true)), .d (.v (.int .i64 tb))]] (actB a) (mRes p rs (doneC p c) (a ++ [entA c 2])) := by
 have hdn := mdone_fn p rs c a h hv hs hl hrd (by omega) (.inr (.inl hp))
 clear h hv hs
 refine startK (tm := [(0, _), (1, _)]) (mBo p rs c a) Tryz.func98 rfl Tryz.ntmps98 rfl rfl rfl rfl ?_
 repeat' (first
 |(with_reducible refine K_ca 100 ?_); refine zT (hdn) ?_
 |refine wA ?_
 |(refine wC ?_ ?_ <;> intro hc)
 |refine wB ?_ ?_
 |(with_reducible refine JL.block ?_)
 |(with_reducible refine FK_at ?_); refine eK Tryz.results98 ?_
 |exact oM
 |fail)
 all_goals first | (exfalso; omega) | kernel_rfl
theorem mgate2_fn (p : Prob) (rs : List Int) (c : CtlD) (a : List ActD) (k tk rd rp vr tb : Int) (h : CtlK p c) (hv : PlanV p c.plan) (hs : setErr p rs = 0) (hl : c.plan.length ≤ 1000000) (hrd : -1000000000 ≤ c.round ∧ c.round ≤ 1000000000) (hla : a.length ≤ 800) (hp : c.phase = 2) (he : rd = c.round) : FnSound Tryz.prog 98 [.io 124 (machC p rs c (1000, 0)), .val true [.d (.v (.int .i64 k)), .d (.v (.int .i64 tk)), .d (.v (.int .i64 rd)), .d (.v (.int .i64 rp)), .d (.v (.int .i64 vr)), .d (.v (.bool false)), .d (.v (.int .i64 tb))]] (actB a) (mRes p rs ⟨c.plan, c.at_, 3, c.replica, c.round + 1, c.token, c.mix⟩ (a ++ entA c 3 :: repeatP ⟨c.plan, c.at_, 3, c.replica, c.round + 1, c.token, c.mix⟩)) := by
 have hrp2 := mrepeat_fn p rs ⟨c.plan, c.at_, 3, c.replica, c.round + 1, c.token, c.mix⟩ (a ++ [entA c 3]) ((h.gateNo hp).round (c.round + 1)) hl (by simp; omega)
 rw [List.append_cons]
 clear h hv hs
 refine startK (tm := [(0, _), (1, _)]) (mBo p rs c a) Tryz.func98 rfl Tryz.ntmps98 rfl rfl rfl rfl ?_
 repeat' (first
 |(with_reducible refine K_ca 101 ?_); refine zT (mwrite_fn p rs c a 3 hrd (by omega)) ?_
 |(with_reducible refine K_ca 125 ?_); refine zT (hrp2) ?_
 |refine wA ?_
 |(refine wC ?_ ?_ <;> intro hc)
 |refine wB ?_ ?_
 |(with_reducible refine JL.block ?_)
 |(with_reducible refine FK_at ?_); refine eK Tryz.results98 ?_
 |exact oM
 |fail)
 all_goals first | (exfalso; omega) | kernel_rfl
theorem msig1n_fn (p : Prob) (rs : List Int) (c : CtlD) (a : List ActD) (tk rd rp vr tb : Int) (pa : Bool) (ht : tk ≤ c.token) : FnSound Tryz.prog 61 [.io 124 (machC p rs c (1000, 0)), .val true [.d (.v (.int .i64 1)), .d (.v (.int .i64 tk)), .d (.v (.int .i64 rd)), .d (.v (.int .i64 rp)), .d (.v (.int .i64 vr)), .d (.v (.bool pa)), .d (.v (.int .i64 tb))]] (actB a) (mRes p rs c a) := by
 refine startK (tm := [(0, _), (1, _)]) (mBo p rs c a) Tryz.func61 rfl Tryz.ntmps61 rfl rfl rfl rfl ?_
 repeat' (first
 |refine wA ?_
 |(refine wC ?_ ?_ <;> intro hc)
 |refine wB ?_ ?_
 |(with_reducible refine JL.block ?_)
 |(with_reducible refine FK_at ?_); refine eK Tryz.results61 ?_
 |exact oM
 |fail)
 all_goals first | (exfalso; omega) | kernel_rfl
theorem msig1y_fn (p : Prob) (rs : List Int) (c : CtlD) (a : List ActD) (tk rd rp vr tb : Int) (pa : Bool) (h : CtlK p c) (hv : PlanV p c.plan) (hs : setErr p rs = 0) (hl : c.plan.length ≤ 1000000) (hrd : -1000000000 ≤ c.round ∧ c.round ≤ 1000000000) (hla : a.length ≤ 800) (ht : ¬ tk ≤ c.token) : FnSound Tryz.prog 61 [.io 124 (machC p rs c (1000, 0)), .val true [.d (.v (.int .i64 1)), .d (.v (.int .i64 tk)), .d (.v (.int .i64 rd)), .d (.v (.int .i64 rp)), .d (.v (.int .i64 vr)), .d (.v (.bool pa)), .d (.v (.int .i64 tb))]] (actB a) (mRes p rs (tickP p rs ⟨c.plan, c.at_, c.phase, c.replica, c.round, tk, c.mix⟩).1 (a ++ (tickP p rs ⟨c.plan, c.at_, c.phase, c.replica, c.round, tk, c.mix⟩).2)) := by
 have htk := mtick_fn p rs ⟨c.plan, c.at_, c.phase, c.replica, c.round, tk, c.mix⟩ a (h.token tk) hv hs hl hrd hla
 clear h hv hs
 refine startK (tm := [(0, _), (1, _)]) (mBo p rs c a) Tryz.func61 rfl Tryz.ntmps61 rfl rfl rfl rfl ?_
 repeat' (first
 |(with_reducible refine K_ca 96 ?_); refine zT (htk) ?_
 |refine wA ?_
 |(refine wC ?_ ?_ <;> intro hc)
 |refine wB ?_ ?_
 |(with_reducible refine JL.block ?_)
 |(with_reducible refine FK_at ?_); refine eK Tryz.results61 ?_
 |exact oM
 |fail)
 all_goals first | (exfalso; omega) | kernel_rfl
theorem msig0_fn (p : Prob) (rs : List Int) (c : CtlD) (a : List ActD) (k tk rd rp vr tb : Int) (pa : Bool) (hk : ¬ k = 1) (h0 : c.token = 0) : FnSound Tryz.prog 61 [.io 124 (machC p rs c (1000, 0)), .val true [.d (.v (.int .i64 k)), .d (.v (.int .i64 tk)), .d (.v (.int .i64 rd)), .d (.v (.int .i64 rp)), .d (.v (.int .i64 vr)), .d (.v (.bool pa)), .d (.v (.int .i64 tb))]] (actB a) (mRes p rs c a) := by
 refine startK (tm := [(0, _), (1, _)]) (mBo p rs c a) Tryz.func61 rfl Tryz.ntmps61 rfl rfl rfl rfl ?_
 repeat' (first
 |refine wA ?_
 |(refine wC ?_ ?_ <;> intro hc)
 |refine wB ?_ ?_
 |(with_reducible refine JL.block ?_)
 |(with_reducible refine FK_at ?_); refine eK Tryz.results61 ?_
 |exact oM
 |fail)
 all_goals first | (exfalso; omega) | kernel_rfl
theorem msig2_fn (p : Prob) (rs : List Int) (c : CtlD) (a : List ActD) (tk rd rp vr tb : Int) (pa : Bool) (h0 : ¬ c.token = 0) : FnSound Tryz.prog 61 [.io 124 (machC p rs c (1000, 0)), .val true [.d (.v (.int .i64 2)), .d (.v (.int .i64 tk)), .d (.v (.int .i64 rd)), .d (.v (.int .i64 rp)), .d (.v (.int .i64 vr)), .d (.v (.bool pa)), .d (.v (.int .i64 tb))]] (actB a) (mRes p rs ⟨c.plan, c.at_, c.phase, c.replica, c.round, 0, c.mix⟩ a) := by
 refine startK (tm := [(0, _), (1, _)]) (mBo p rs c a) Tryz.func61 rfl Tryz.ntmps61 rfl rfl rfl rfl ?_
 repeat' (first
 |refine wA ?_
 |(refine wC ?_ ?_ <;> intro hc)
 |refine wB ?_ ?_
 |(with_reducible refine JL.block ?_)
 |(with_reducible refine FK_at ?_); refine eK Tryz.results61 ?_
 |exact oM
 |fail)
 all_goals first | (exfalso; omega) | kernel_rfl
theorem msig3_fn (p : Prob) (rs : List Int) (c : CtlD) (a : List ActD) (tk rd rp vr tb : Int) (pa : Bool) (h : CtlK p c) (hv : PlanV p c.plan) (hs : setErr p rs = 0) (hl : c.plan.length ≤ 1000000) (hrd : -1000000000 ≤ c.round ∧ c.round ≤ 1000000000) (hla : a.length ≤ 800) (h0 : ¬ c.token = 0) : FnSound Tryz.prog 61 [.io 124 (machC p rs c (1000, 0)), .val true [.d (.v (.int .i64 3)), .d (.v (.int .i64 tk)), .d (.v (.int .i64 rd)), .d (.v (.int .i64 rp)), .d (.v (.int .i64 vr)), .d (.v (.bool pa)), .d (.v (.int .i64 tb))]] (actB a) (mRes p rs (tickP p rs c).1 (a ++ (tickP p rs c).2)) := by
 have htk := mtick_fn p rs c a h hv hs hl hrd hla
 clear h hv hs
 refine startK (tm := [(0, _), (1, _)]) (mBo p rs c a) Tryz.func61 rfl Tryz.ntmps61 rfl rfl rfl rfl ?_
 repeat' (first
 |(with_reducible refine K_ca 96 ?_); refine zT (htk) ?_
 |refine wA ?_
 |(refine wC ?_ ?_ <;> intro hc)
 |refine wB ?_ ?_
 |(with_reducible refine JL.block ?_)
 |(with_reducible refine FK_at ?_); refine eK Tryz.results61 ?_
 |exact oM
 |fail)
 all_goals first | (exfalso; omega) | kernel_rfl
theorem msig4n_fn (p : Prob) (rs : List Int) (c : CtlD) (a : List ActD) (tk rd rp vr tb : Int) (pa : Bool) (h : CtlK p c) (hl : c.plan.length ≤ 1000000) (hla : a.length ≤ 800) (h0 : ¬ c.token = 0) (hn : ¬ (c.phase = 1 ∨ c.phase = 3) ∨ ¬ (c.round = rd ∧ c.replica = rp ∧ wantedP c = vr)) : FnSound Tryz.prog 61 [.io 124 (machC p rs c (1000, 0)), .val true [.d (.v (.int .i64 4)), .d (.v (.int .i64 tk)), .d (.v (.int .i64 rd)), .d (.v (.int .i64 rp)), .d (.v (.int .i64 vr)), .d (.v (.bool pa)), .d (.v (.int .i64 tb))]] (actB a) (mRes p rs c a) := by
 have hak := mack0_fn p rs c a 4 tk rd rp vr tb pa h hl (by omega) hn
 clear h hn
 refine startK (tm := [(0, _), (1, _)]) (mBo p rs c a) Tryz.func61 rfl Tryz.ntmps61 rfl rfl rfl rfl ?_
 repeat' (first
 |(with_reducible refine K_ca 97 ?_); refine zT (hak) ?_
 |refine wA ?_
 |(refine wC ?_ ?_ <;> intro hc)
 |refine wB ?_ ?_
 |(with_reducible refine JL.block ?_)
 |(with_reducible refine FK_at ?_); refine eK Tryz.results61 ?_
 |exact oM
 |fail)
 all_goals first | (exfalso; omega) | kernel_rfl
theorem msig4y_fn (p : Prob) (rs : List Int) (c : CtlD) (a : List ActD) (tk rd rp vr tb : Int) (pa : Bool) (h : CtlK p c) (hv : PlanV p c.plan) (hr : CtlR p rs c) (hs : setErr p rs = 0) (hl : c.plan.length ≤ 1000000) (hrd : -1000000000 ≤ c.round ∧ c.round ≤ 1000000000) (hla : a.length ≤ 800) (hrp : -1000000000 ≤ c.replica ∧ c.replica ≤ 1000000000) (h0 : ¬ c.token = 0) (hp : c.phase = 1 ∨ c.phase = 3) (he : c.round = rd ∧ c.replica = rp ∧ wantedP c = vr) : FnSound Tryz.prog 61 [.io 124 (machC p rs c (1000, 0)), .val true [.d (.v (.int .i64 4)), .d (.v (.int .i64 tk)), .d (.v (.int .i64 rd)), .d (.v (.int .i64 rp)), .d (.v (.int .i64 vr)), .d (.v (.bool pa)), .d (.v (.int .i64 tb))]] (actB a) (mRes p rs (ackP p rs c ⟨4, tk, rd, rp, vr, pa, tb⟩).1 (a ++ (ackP p rs c ⟨4, tk, rd, rp, vr, pa, tb⟩).2)) := by
 have hak := mack1_fn p rs c a 4 tk rd rp vr tb pa h hv hr hs hl hrd hla hrp hp he
 clear h hv hr hs hp he
 refine startK (tm := [(0, _), (1, _)]) (mBo p rs c a) Tryz.func61 rfl Tryz.ntmps61 rfl rfl rfl rfl ?_
 repeat' (first
 |(with_reducible refine K_ca 97 ?_); refine zT (hak) ?_
 |refine wA ?_
 |(refine wC ?_ ?_ <;> intro hc)
 |refine wB ?_ ?_
 |(with_reducible refine JL.block ?_)
 |(with_reducible refine FK_at ?_); refine eK Tryz.results61 ?_
 |exact oM
 |fail)
 all_goals first | (exfalso; omega) | kernel_rfl
theorem msig5n_fn (p : Prob) (rs : List Int) (c : CtlD) (a : List ActD) (tk rd rp vr tb : Int) (pa : Bool) (h0 : ¬ c.token = 0) (hn : ¬ c.phase = 2 ∨ ¬ rd = c.round) : FnSound Tryz.prog 61 [.io 124 (machC p rs c (1000, 0)), .val true [.d (.v (.int .i64 5)), .d (.v (.int .i64 tk)), .d (.v (.int .i64 rd)), .d (.v (.int .i64 rp)), .d (.v (.int .i64 vr)), .d (.v (.bool pa)), .d (.v (.int .i64 tb))]] (actB a) (mRes p rs c a) := by
 have hga := mgate0_fn p rs c a 5 tk rd rp vr tb pa hn
 clear hn
 refine startK (tm := [(0, _), (1, _)]) (mBo p rs c a) Tryz.func61 rfl Tryz.ntmps61 rfl rfl rfl rfl ?_
 repeat' (first
 |(with_reducible refine K_ca 98 ?_); refine zT (hga) ?_
 |refine wA ?_
 |(refine wC ?_ ?_ <;> intro hc)
 |refine wB ?_ ?_
 |(with_reducible refine JL.block ?_)
 |(with_reducible refine FK_at ?_); refine eK Tryz.results61 ?_
 |exact oM
 |fail)
 all_goals first | (exfalso; omega) | kernel_rfl
theorem msig5y_fn (p : Prob) (rs : List Int) (c : CtlD) (a : List ActD) (tk rd rp vr tb : Int) (pa : Bool) (h : CtlK p c) (hv : PlanV p c.plan) (hs : setErr p rs = 0) (hl : c.plan.length ≤ 1000000) (hrd : -1000000000 ≤ c.round ∧ c.round ≤ 1000000000) (hla : a.length ≤ 800) (h0 : ¬ c.token = 0) (hp : c.phase = 2) (he : rd = c.round) : FnSound Tryz.prog 61 [.io 124 (machC p rs c (1000, 0)), .val true [.d (.v (.int .i64 5)), .d (.v (.int .i64 tk)), .d (.v (.int .i64 rd)), .d (.v (.int .i64 rp)), .d (.v (.int .i64 vr)), .d (.v (.bool true)), .d (.v (.int .i64 tb))]] (actB a) (mRes p rs (doneC p c) (a ++ [entA c 2])) := by
 have hga := mgate1_fn p rs c a 5 tk rd rp vr tb h hv hs hl hrd hla hp he
 clear h hv hs
 refine startK (tm := [(0, _), (1, _)]) (mBo p rs c a) Tryz.func61 rfl Tryz.ntmps61 rfl rfl rfl rfl ?_
 repeat' (first
 |(with_reducible refine K_ca 98 ?_); refine zT (hga) ?_
 |refine wA ?_
 |(refine wC ?_ ?_ <;> intro hc)
 |refine wB ?_ ?_
 |(with_reducible refine JL.block ?_)
 |(with_reducible refine FK_at ?_); refine eK Tryz.results61 ?_
 |exact oM
 |fail)
 all_goals first | (exfalso; omega) | kernel_rfl
theorem msig5f_fn (p : Prob) (rs : List Int) (c : CtlD) (a : List ActD) (tk rd rp vr tb : Int) (pa : Bool) (h : CtlK p c) (hv : PlanV p c.plan) (hs : setErr p rs = 0) (hl : c.plan.length ≤ 1000000) (hrd : -1000000000 ≤ c.round ∧ c.round ≤ 1000000000) (hla : a.length ≤ 800) (h0 : ¬ c.token = 0) (hp : c.phase = 2) (he : rd = c.round) : FnSound Tryz.prog 61 [.io 124 (machC p rs c (1000, 0)), .val true [.d (.v (.int .i64 5)), .d (.v (.int .i64 tk)), .d (.v (.int .i64 rd)), .d (.v (.int .i64 rp)), .d (.v (.int .i64 vr)), .d (.v (.bool false)), .d (.v (.int .i64 tb))]] (actB a) (mRes p rs ⟨c.plan, c.at_, 3, c.replica, c.round + 1, c.token, c.mix⟩ (a ++ entA c 3 :: repeatP ⟨c.plan, c.at_, 3, c.replica, c.round + 1, c.token, c.mix⟩)) := by
 have hga := mgate2_fn p rs c a 5 tk rd rp vr tb h hv hs hl hrd hla hp he
 clear h hv hs
 refine startK (tm := [(0, _), (1, _)]) (mBo p rs c a) Tryz.func61 rfl Tryz.ntmps61 rfl rfl rfl rfl ?_
 repeat' (first
 |(with_reducible refine K_ca 98 ?_); refine zT (hga) ?_
 |refine wA ?_
 |(refine wC ?_ ?_ <;> intro hc)
 |refine wB ?_ ?_
 |(with_reducible refine JL.block ?_)
 |(with_reducible refine FK_at ?_); refine eK Tryz.results61 ?_
 |exact oM
 |fail)
 all_goals first | (exfalso; omega) | kernel_rfl
theorem msig6n_fn (p : Prob) (rs : List Int) (c : CtlD) (a : List ActD) (tk rd rp vr tb : Int) (pa : Bool) (h : CtlK p c) (hl : c.plan.length ≤ 1000000) (h0 : ¬ c.token = 0) (hn : ¬ (rd = c.round ∧ c.phase = 4 ∧ tb = (present c).idx)) : FnSound Tryz.prog 61 [.io 124 (machC p rs c (1000, 0)), .val true [.d (.v (.int .i64 6)), .d (.v (.int .i64 tk)), .d (.v (.int .i64 rd)), .d (.v (.int .i64 rp)), .d (.v (.int .i64 vr)), .d (.v (.bool pa)), .d (.v (.int .i64 tb))]] (actB a) (mRes p rs c a) := by
 have hpr := fun b : c.phase = 4 => mpresent_fn p rs c a ⟨h.rng.1, h.lt (by omega)⟩ hl (present c) rfl
 clear h
 refine startK (tm := [(0, _), (1, _)]) (mBo p rs c a) Tryz.func61 rfl Tryz.ntmps61 rfl rfl rfl rfl ?_
 repeat' (first
 |(with_reducible refine rgL (fun g => g == 99) ?_ ?_); exact rfl
 |(with_reducible refine K_ca 99 ?_); refine zC (hpr (by omega)) ?_
 |refine wA ?_
 |(refine wC ?_ ?_ <;> intro hc)
 |refine wB ?_ ?_
 |(with_reducible refine JL.block ?_)
 |(with_reducible refine FK_at ?_); refine eK Tryz.results61 ?_
 |exact oM
 |fail)
 all_goals first | (exfalso; omega) | kernel_rfl
theorem msig6y_fn (p : Prob) (rs : List Int) (c : CtlD) (a : List ActD) (tk rd rp vr tb : Int) (pa : Bool) (h : CtlK p c) (hv : PlanV p c.plan) (hs : setErr p rs = 0) (hl : c.plan.length ≤ 1000000) (hrd : -1000000000 ≤ c.round ∧ c.round ≤ 1000000000) (hla : a.length ≤ 800) (h0 : ¬ c.token = 0) (he : rd = c.round ∧ c.phase = 4 ∧ tb = (present c).idx) : FnSound Tryz.prog 61 [.io 124 (machC p rs c (1000, 0)), .val true [.d (.v (.int .i64 6)), .d (.v (.int .i64 tk)), .d (.v (.int .i64 rd)), .d (.v (.int .i64 rp)), .d (.v (.int .i64 vr)), .d (.v (.bool pa)), .d (.v (.int .i64 tb))]] (actB a) (mRes p rs (doneC p c) (a ++ [entA c 2])) := by
 have hpr := mpresent_fn p rs c a ⟨h.rng.1, h.lt (by omega)⟩ hl (present c) rfl
 have hdn := mdone_fn p rs c a h hv hs hl hrd (by omega) (.inr (.inr he.2.1))
 clear h hv hs
 refine startK (tm := [(0, _), (1, _)]) (mBo p rs c a) Tryz.func61 rfl Tryz.ntmps61 rfl rfl rfl rfl ?_
 repeat' (first
 |(with_reducible refine rgL (fun g => g == 99) ?_ ?_); exact rfl
 |(with_reducible refine K_ca 99 ?_); refine zC (hpr) ?_
 |(with_reducible refine K_ca 100 ?_); refine zT (hdn) ?_
 |refine wA ?_
 |(refine wC ?_ ?_ <;> intro hc)
 |refine wB ?_ ?_
 |(with_reducible refine JL.block ?_)
 |(with_reducible refine FK_at ?_); refine eK Tryz.results61 ?_
 |exact oM
 |fail)
 all_goals first | (exfalso; omega) | kernel_rfl
theorem msig7n_fn (p : Prob) (rs : List Int) (c : CtlD) (a : List ActD) (tk rd rp vr tb : Int) (pa : Bool) (h0 : ¬ c.token = 0) (hn : ¬ c.phase = 5) : FnSound Tryz.prog 61 [.io 124 (machC p rs c (1000, 0)), .val true [.d (.v (.int .i64 7)), .d (.v (.int .i64 tk)), .d (.v (.int .i64 rd)), .d (.v (.int .i64 rp)), .d (.v (.int .i64 vr)), .d (.v (.bool pa)), .d (.v (.int .i64 tb))]] (actB a) (mRes p rs c a) := by
 refine startK (tm := [(0, _), (1, _)]) (mBo p rs c a) Tryz.func61 rfl Tryz.ntmps61 rfl rfl rfl rfl ?_
 repeat' (first
 |refine wA ?_
 |(refine wC ?_ ?_ <;> intro hc)
 |refine wB ?_ ?_
 |(with_reducible refine JL.block ?_)
 |(with_reducible refine FK_at ?_); refine eK Tryz.results61 ?_
 |exact oM
 |fail)
 all_goals first | (exfalso; omega) | kernel_rfl
theorem msig7y_fn (p : Prob) (rs : List Int) (c : CtlD) (a : List ActD) (tk rd rp vr tb : Int) (pa : Bool) (hrd : -1000000000 ≤ c.round ∧ c.round ≤ 1000000000) (hla : a.length ≤ 800) (h0 : ¬ c.token = 0) (hp : c.phase = 5) : FnSound Tryz.prog 61 [.io 124 (machC p rs c (1000, 0)), .val true [.d (.v (.int .i64 7)), .d (.v (.int .i64 tk)), .d (.v (.int .i64 rd)), .d (.v (.int .i64 rp)), .d (.v (.int .i64 vr)), .d (.v (.bool pa)), .d (.v (.int .i64 tb))]] (actB a) (mRes p rs ⟨c.plan, c.at_, 0, c.replica, c.round + 1, c.token, c.mix⟩ (a ++ [entA c 4])) := by
 refine startK (tm := [(0, _), (1, _)]) (mBo p rs c a) Tryz.func61 rfl Tryz.ntmps61 rfl rfl rfl rfl ?_
 repeat' (first
 |(with_reducible refine K_ca 101 ?_); refine zT (mwrite_fn p rs c a 4 hrd (by omega)) ?_
 |refine wA ?_
 |(refine wC ?_ ?_ <;> intro hc)
 |refine wB ?_ ?_
 |(with_reducible refine JL.block ?_)
 |(with_reducible refine FK_at ?_); refine eK Tryz.results61 ?_
 |exact oM
 |fail)
 all_goals first | (exfalso; omega) | kernel_rfl
theorem msigX_fn (p : Prob) (rs : List Int) (c : CtlD) (a : List ActD) (k tk rd rp vr tb : Int) (pa : Bool) (hk : ¬ k = 1 ∧ ¬ k = 2 ∧ ¬ k = 3 ∧ ¬ k = 4 ∧ ¬ k = 5 ∧ ¬ k = 6 ∧ ¬ k = 7) (h0 : ¬ c.token = 0) : FnSound Tryz.prog 61 [.io 124 (machC p rs c (1000, 0)), .val true [.d (.v (.int .i64 k)), .d (.v (.int .i64 tk)), .d (.v (.int .i64 rd)), .d (.v (.int .i64 rp)), .d (.v (.int .i64 vr)), .d (.v (.bool pa)), .d (.v (.int .i64 tb))]] (actB a) (mRes p rs c a) := by
 refine startK (tm := [(0, _), (1, _)]) (mBo p rs c a) Tryz.func61 rfl Tryz.ntmps61 rfl rfl rfl rfl ?_
 repeat' (first
 |refine wA ?_
 |(refine wC ?_ ?_ <;> intro hc)
 |refine wB ?_ ?_
 |(with_reducible refine JL.block ?_)
 |(with_reducible refine FK_at ?_); refine eK Tryz.results61 ?_
 |exact oM
 |fail)
 all_goals first | (exfalso; omega) | kernel_rfl
theorem msignal_fn (p : Prob) (rs : List Int) (c : CtlD) (a : List ActD) (s : SigD) (h : CtlK p c) (hv : PlanV p c.plan) (hr : CtlR p rs c) (hs : setErr p rs = 0) (hl : c.plan.length ≤ 1000000) (hrd : -1000000000 ≤ c.round ∧ c.round ≤ 1000000000) (hla : a.length ≤ 800) (hrp : -1000000000 ≤ c.replica ∧ c.replica ≤ 1000000000) : FnSound Tryz.prog 61 [.io 124 (machC p rs c (1000, 0)), .val true (sigC s)] (actB a) (mRes p rs (nextP p rs c s).1 (a ++ (nextP p rs c s).2)) := by
 obtain ⟨k, tk, rd, rp, vr, pa, tb⟩ := s
 have wr : w64 (c.round + 1) = c.round + 1 := w64_is (by omega)
 have same : ∀ {R : ARes}, FnSound Tryz.prog 61 [.io 124 (machC p rs c (1000, 0)), .val true (sigC ⟨k, tk, rd, rp, vr, pa, tb⟩)] (actB a) (mRes p rs c a) → nextP p rs c ⟨k, tk, rd, rp, vr, pa, tb⟩ = (c, []) → FnSound Tryz.prog 61 [.io 124 (machC p rs c (1000, 0)), .val true (sigC ⟨k, tk, rd, rp, vr, pa, tb⟩)] (actB a) (mRes p rs (nextP p rs c ⟨k, tk, rd, rp, vr, pa, tb⟩).1 (a ++ (nextP p rs c ⟨k, tk, rd, rp, vr, pa, tb⟩).2)) := by
  intro _ h e
  rw [e, List.append_nil]; exact h
 by_cases k1 : k = 1
 ·subst k1
  by_cases ht : tk ≤ c.token
  ·exact same (R := mRes p rs c a) (msig1n_fn p rs c a tk rd rp vr tb pa ht) (by unfold nextP; rw [if_pos rfl, if_pos ht])
  ·have e : nextP p rs c ⟨1, tk, rd, rp, vr, pa, tb⟩ = tickP p rs ⟨c.plan, c.at_, c.phase, c.replica, c.round, tk, c.mix⟩ := by unfold nextP; rw [if_pos rfl, if_neg ht]
   rw [e]
   exact msig1y_fn p rs c a tk rd rp vr tb pa h hv hs hl hrd hla ht
 by_cases h0 : c.token = 0
 ·exact same (R := mRes p rs c a) (msig0_fn p rs c a k tk rd rp vr tb pa k1 h0) (by unfold nextP; rw [if_neg k1, if_pos h0])
 by_cases k2 : k = 2
 ·subst k2
  have e : nextP p rs c ⟨2, tk, rd, rp, vr, pa, tb⟩ = (⟨c.plan, c.at_, c.phase, c.replica, c.round, 0, c.mix⟩, []) := by unfold nextP; rw [if_neg k1, if_neg h0, if_pos rfl]
  rw [e, List.append_nil]
  exact msig2_fn p rs c a tk rd rp vr tb pa h0
 by_cases k3 : k = 3
 ·subst k3
  have e : nextP p rs c ⟨3, tk, rd, rp, vr, pa, tb⟩ = tickP p rs c := by unfold nextP; rw [if_neg k1, if_neg h0, if_neg k2, if_pos rfl]
  rw [e]
  exact msig3_fn p rs c a tk rd rp vr tb pa h hv hs hl hrd hla h0
 have e0 : nextP p rs c ⟨k, tk, rd, rp, vr, pa, tb⟩ = if k = 4 ∧ rd = c.round ∧ (c.phase = 1 ∨ c.phase = 3) then ackP p rs c ⟨k, tk, rd, rp, vr, pa, tb⟩
     else if k = 5 ∧ rd = c.round ∧ c.phase = 2 then (if pa = true then (doneC p c, [entA c 2]) else ({ bump c with phase := 3 }, entA c 3 :: repeatP { bump c with phase := 3 }))
     else if k = 6 ∧ rd = c.round ∧ c.phase = 4 ∧ tb = (present c).idx then (doneC p c, [entA c 2])
     else if k = 7 ∧ c.phase = 5 then ({ bump c with phase := 0 }, [entA c 4])
     else (c, []) := by unfold nextP; rw [if_neg k1, if_neg h0, if_neg k2, if_neg k3]
 by_cases k4 : k = 4
 ·subst k4
  by_cases hp : c.phase = 1 ∨ c.phase = 3
  ·by_cases he : c.round = rd ∧ c.replica = rp ∧ wantedP c = vr
   ·rw [e0, if_pos ⟨rfl, he.1.symm, hp⟩]
    exact msig4y_fn p rs c a tk rd rp vr tb pa h hv hr hs hl hrd hla hrp h0 hp he
   ·refine same (R := mRes p rs c a) (msig4n_fn p rs c a tk rd rp vr tb pa h hl hla h0 (.inr he)) ?_
    rw [e0]
    by_cases hd : rd = c.round
    ·rw [if_pos ⟨rfl, hd, hp⟩]
     unfold ackP
     rw [if_pos (by show ¬ rp = c.replica ∨ ¬ vr = wantedP c; omega)]
    ·rw [if_neg (fun b => hd b.2.1), if_neg (by omega), if_neg (by omega), if_neg (by omega)]
  ·refine same (R := mRes p rs c a) (msig4n_fn p rs c a tk rd rp vr tb pa h hl hla h0 (.inl hp)) ?_
   rw [e0, if_neg (fun b => hp b.2.2), if_neg (by omega), if_neg (by omega), if_neg (by omega)]
 rw [if_neg (fun b => k4 b.1)] at e0
 by_cases k5 : k = 5
 ·subst k5
  by_cases hp : c.phase = 2 ∧ rd = c.round
  ·rw [if_pos ⟨rfl, hp.2, hp.1⟩] at e0
   cases pa with
   | true =>
    rw [if_pos rfl] at e0
    rw [e0]
    exact msig5y_fn p rs c a tk rd rp vr tb true h hv hs hl hrd hla h0 hp.1 hp.2
   | false =>
    rw [if_neg (by decide)] at e0
    have eb : ({ bump c with phase := 3 } : CtlD) = ⟨c.plan, c.at_, 3, c.replica, c.round + 1, c.token, c.mix⟩ := by unfold bump; rw [wr]
    rw [e0, eb]
    exact msig5f_fn p rs c a tk rd rp vr tb false h hv hs hl hrd hla h0 hp.1 hp.2
  ·refine same (R := mRes p rs c a) (msig5n_fn p rs c a tk rd rp vr tb pa h0 (by omega)) ?_
   rw [e0, if_neg (by omega), if_neg (by omega), if_neg (by omega)]
 rw [if_neg (fun b => k5 b.1)] at e0
 by_cases k6 : k = 6
 ·subst k6
  by_cases he : rd = c.round ∧ c.phase = 4 ∧ tb = (present c).idx
  ·rw [e0, if_pos ⟨rfl, he⟩]
   exact msig6y_fn p rs c a tk rd rp vr tb pa h hv hs hl hrd hla h0 he
  ·refine same (R := mRes p rs c a) (msig6n_fn p rs c a tk rd rp vr tb pa h hl h0 he) ?_
   rw [e0, if_neg (fun b => he b.2), if_neg (by omega)]
 rw [if_neg (fun b => k6 b.1)] at e0
 by_cases k7 : k = 7
 ·subst k7
  by_cases hp : c.phase = 5
  ·rw [if_pos ⟨rfl, hp⟩] at e0
   have eb : ({ bump c with phase := 0 } : CtlD) = ⟨c.plan, c.at_, 0, c.replica, c.round + 1, c.token, c.mix⟩ := by unfold bump; rw [wr]
   rw [e0, eb]
   exact msig7y_fn p rs c a tk rd rp vr tb pa hrd hla h0 hp
  ·refine same (R := mRes p rs c a) (msig7n_fn p rs c a tk rd rp vr tb pa h0 hp) ?_
   rw [e0, if_neg (fun b => hp b.2)]
 rw [if_neg (fun b => k7 b.1)] at e0
 exact same (R := mRes p rs c a) (msigX_fn p rs c a k tk rd rp vr tb pa ⟨k1, k2, k3, k4, k5, k6, k7⟩ h0) e0
end Go.Proofs.YtdpeoolildjohaaGreatDoor

namespace Go.Proofs.YtdpeoolildjohaaGreatDoor
open Go Go.RowKit
set_option maxRecDepth 100000
set_option maxHeartbeats 8000000
set_option linter.unusedSimpArgs false
set_option linter.unusedVariables false
theorem cnan_fn (x : Int) : FnSound Tryz.prog 147 [.val false [.d (.v (.int .i64 x))]] [] { vals := [(false, [.d (.v (.bool false))])] } := by
 refine startW (tm := [(0, _)]) Tryz.func147 rfl Tryz.ntmps147 rfl rfl rfl rfl ?_
 repeat' (first
 |refine wA ?_
 |(refine wC ?_ ?_ <;> intro hc)
 |refine wB ?_ ?_
 |(with_reducible refine JL.block ?_)
 |(with_reducible refine F_at ?_); refine eW (vs := [(_, _)]) Tryz.results147 ?_; (focus (repeat' (first | exact oA | refine oB ?_ | refine oC ?_ ?_ | fail)))
 |exact oM
 |fail)
 all_goals simp
theorem cnan8_fn (x : Int) : FnSound Tryz.prog 148 [.val false [.d (.v (.int .u8 x))]] [] { vals := [(false, [.d (.v (.bool false))])] } := by
 refine startW (tm := [(0, _)]) Tryz.func148 rfl Tryz.ntmps148 rfl rfl rfl rfl ?_
 repeat' (first
 |refine wA ?_
 |(refine wC ?_ ?_ <;> intro hc)
 |refine wB ?_ ?_
 |(with_reducible refine JL.block ?_)
 |(with_reducible refine F_at ?_); refine eW (vs := [(_, _)]) Tryz.results148 ?_; (focus (repeat' (first | exact oA | refine oB ?_ | refine oC ?_ ?_ | fail)))
 |exact oM
 |fail)
 all_goals simp
theorem ccmpI_fn (x y : Int) : FnSound Tryz.prog 121 [.val false [.d (.v (.int .i64 x))], .val false [.d (.v (.int .i64 y))]] [] { vals := [(false, [.d (.v (.int .i64 (cmp1 x y)))])] } := by
 refine startW (tm := [(0, _), (1, _)]) Tryz.func121 rfl Tryz.ntmps121 rfl rfl rfl rfl ?_
 repeat' (first
 |(with_reducible refine K_ca 147 ?_); (first
 |refine zC (cnan_fn x) ?_
 |refine zC (cnan_fn y) ?_)
 |refine wA ?_
 |(refine wC ?_ ?_ <;> intro hc)
 |refine wB ?_ ?_
 |(with_reducible refine JL.block ?_)
 |(with_reducible refine F_at ?_); refine eW (vs := [(_, _)]) Tryz.results121 ?_; (focus (repeat' (first | exact oA | refine oB ?_ | refine oC ?_ ?_ | fail)))
 |exact oM
 |fail)
 all_goals (unfold cmp1; first | (rw [if_pos (by omega)]; done) | (rw [if_neg (by omega), if_pos (by omega)]; done) | (rw [if_neg (by omega), if_neg (by omega)]; done))
theorem ccmpS_fn (x y : Int) : FnSound Tryz.prog 122 [.val false [.d (.v (.int .u8 x))], .val false [.d (.v (.int .u8 y))]] [] { vals := [(false, [.d (.v (.int .i64 (cmp1 x y)))])] } := by
 refine startW (tm := [(0, _), (1, _)]) Tryz.func122 rfl Tryz.ntmps122 rfl rfl rfl rfl ?_
 repeat' (first
 |(with_reducible refine K_ca 148 ?_); (first
 |refine zC (cnan8_fn x) ?_
 |refine zC (cnan8_fn y) ?_)
 |refine wA ?_
 |(refine wC ?_ ?_ <;> intro hc)
 |refine wB ?_ ?_
 |(with_reducible refine JL.block ?_)
 |(with_reducible refine F_at ?_); refine eW (vs := [(_, _)]) Tryz.results122 ?_; (focus (repeat' (first | exact oA | refine oB ?_ | refine oC ?_ ?_ | fail)))
 |exact oM
 |fail)
 all_goals (unfold cmp1; first | (rw [if_pos (by omega)]; done) | (rw [if_neg (by omega), if_pos (by omega)]; done) | (rw [if_neg (by omega), if_neg (by omega)]; done))
theorem cmq_at {a b : List Int} {k : Nat} (ha : k < a.length) (hb : k < b.length) : cmpL (a.drop k) (b.drop k) = if ¬ cmp1 (a.getD k 0) (b.getD k 0) = 0 then cmp1 (a.getD k 0) (b.getD k 0) else cmpL (a.drop (k + 1)) (b.drop (k + 1)) := by
 rw [List.drop_eq_getElem_cons ha, List.drop_eq_getElem_cons hb, List.getD_eq_getElem?_getD, List.getD_eq_getElem?_getD, List.getElem?_eq_getElem ha, List.getElem?_eq_getElem hb]
 simp only [Option.getD_some, cmpL, cmp1]
 by_cases h1 : a[k] < b[k]
 ·simp [h1]
 ·by_cases h2 : b[k] < a[k]
  ·simp [h1, h2]
  ·simp [h1, h2]
theorem cmq_end {a b : List Int} {k : Nat} (ha : a.length ≤ k) (hk : k ≤ b.length) (hk' : k ≤ a.length) : cmpL (a.drop k) (b.drop k) = if a.length < b.length then -1 else 0 := by
 have e : k = a.length := by omega
 subst e
 rw [List.drop_of_length_le (Nat.le_refl _)]
 by_cases h : a.length < b.length
 ·rw [List.drop_eq_getElem_cons h, if_pos h]; rfl
 ·rw [List.drop_of_length_le (by omega), if_neg h]; rfl
theorem cmq_more {a b : List Int} {k : Nat} (ha : k < a.length) (hb : b.length ≤ k) : cmpL (a.drop k) (b.drop k) = 1 := by
 rw [List.drop_eq_getElem_cons ha, List.drop_of_length_le hb]; rfl
theorem scmpI_fn (a b : List Int) (ha : a.length ≤ 1000) (hb : b.length ≤ 1000) : FnSound Tryz.prog 87 [.val false [.d (.sl 1 (dInts a))], .val false [.d (.sl 1 (dInts b))]] [] { vals := [(false, [.d (.v (.int .i64 (cmpL a b)))])] } := by
 refine startW (tm := [(0, _), (1, _)]) Tryz.func87 rfl Tryz.ntmps87 rfl rfl rfl rfl ?_
 repeat' (first
 |(with_reducible refine K_ca 121 ?_); refine zC (ccmpI_fn (a.getD k 0) (b.getD k 0)) ?_
 |(with_reducible refine blk_at (id := 0) ?_); ((with_reducible refine JL.loopW 0 299 (fun (k : Nat) tm => (11, .one false [.d (.v (.int .i64 ((k : Int))))]) :: tm) (fun (k : Nat) bo => bo) (fun (k : Nat) => k ≤ a.length ∧ k ≤ b.length ∧ cmpL (a.drop k) (b.drop k) = cmpL a b) (fun (k : Nat) => a.length - k) (0) ?_ (fun k hk => ?_) ?_); (focus (apply SubW [] rfl ?_ ?_ rfl ?_; (repeat' (first | exact kA | refine kB ?_ | refine kC ?_ ?_ | exact kD | fail)))))
 |((with_reducible refine round_next (i := k) (k + 1) ?_ ?_ ?_); (focus (apply SubW [] rfl ?_ ?_ rfl ?_; (repeat' (first | exact kA | refine kB ?_ | refine kC ?_ ?_ | exact kD | fail)))))
 |refine wA ?_
 |(refine wC ?_ ?_ <;> intro hc)
 |refine wB ?_ ?_
 |(with_reducible refine JL.block ?_)
 |(with_reducible refine F_at ?_); refine eW (vs := [(_, _)]) Tryz.results87 ?_; (focus (repeat' (first | exact oA | refine oB ?_ | refine oC ?_ ?_ | fail)))
 |exact oM
 |fail)
 all_goals first
  | exact ⟨Nat.zero_le _, Nat.zero_le _, rfl⟩
  | (rw [← hk.2.2, cmq_more (by omega) (by omega)]; done)
  | (rw [← hk.2.2, cmq_at (by omega) (by omega), if_pos hc]; done)
  | exact ⟨by omega, by omega, ((cmq_at (by omega) (by omega)).trans (if_neg (fun b => b hc))).symm.trans hk.2.2⟩
  | (rw [← hk.2.2, cmq_end (by omega) (by omega) (by omega), if_pos (by omega)]; done)
  | (rw [← hk.2.2, cmq_end (by omega) (by omega) (by omega), if_neg (by omega)]; done)
  | trace_state
theorem scmpS_fn (a b : List Int) (ha : a.length ≤ 1000) (hb : b.length ≤ 1000) : FnSound Tryz.prog 88 [.val false [.d (.sl 1 (dSets a))], .val false [.d (.sl 1 (dSets b))]] [] { vals := [(false, [.d (.v (.int .i64 (cmpL a b)))])] } := by
 refine startW (tm := [(0, _), (1, _)]) Tryz.func88 rfl Tryz.ntmps88 rfl rfl rfl rfl ?_
 repeat' (first
 |(with_reducible refine K_ca 122 ?_); refine zC (ccmpS_fn (a.getD k 0) (b.getD k 0)) ?_
 |(with_reducible refine blk_at (id := 0) ?_); ((with_reducible refine JL.loopW 0 299 (fun (k : Nat) tm => (11, .one false [.d (.v (.int .i64 ((k : Int))))]) :: tm) (fun (k : Nat) bo => bo) (fun (k : Nat) => k ≤ a.length ∧ k ≤ b.length ∧ cmpL (a.drop k) (b.drop k) = cmpL a b) (fun (k : Nat) => a.length - k) (0) ?_ (fun k hk => ?_) ?_); (focus (apply SubW [] rfl ?_ ?_ rfl ?_; (repeat' (first | exact kA | refine kB ?_ | refine kC ?_ ?_ | exact kD | fail)))))
 |((with_reducible refine round_next (i := k) (k + 1) ?_ ?_ ?_); (focus (apply SubW [] rfl ?_ ?_ rfl ?_; (repeat' (first | exact kA | refine kB ?_ | refine kC ?_ ?_ | exact kD | fail)))))
 |refine wA ?_
 |(refine wC ?_ ?_ <;> intro hc)
 |refine wB ?_ ?_
 |(with_reducible refine JL.block ?_)
 |(with_reducible refine F_at ?_); refine eW (vs := [(_, _)]) Tryz.results88 ?_; (focus (repeat' (first | exact oA | refine oB ?_ | refine oC ?_ ?_ | fail)))
 |exact oM
 |fail)
 all_goals first
  | exact ⟨Nat.zero_le _, Nat.zero_le _, rfl⟩
  | (rw [← hk.2.2, cmq_more (by omega) (by omega)]; done)
  | (rw [← hk.2.2, cmq_at (by omega) (by omega), if_pos hc]; done)
  | exact ⟨by omega, by omega, ((cmq_at (by omega) (by omega)).trans (if_neg (fun b => b hc))).symm.trans hk.2.2⟩
  | (rw [← hk.2.2, cmq_end (by omega) (by omega) (by omega), if_pos (by omega)]; done)
  | (rw [← hk.2.2, cmq_end (by omega) (by omega) (by omega), if_neg (by omega)]; done)
  | trace_state
theorem cor3 {x y z : Int} {k : Nat} (hk : k < 3) (h : ∀ j, j < k → [x, y, z].getD j 0 = 0) (hn : ¬ [x, y, z].getD k 0 = 0) : [x, y, z].getD k 0 = if ¬ x = 0 then x else if ¬ y = 0 then y else z := by
 match k, hk, h, hn with
 | 0, _, _, hn => exact (if_pos hn).symm
 | 1, _, h, hn => rw [if_neg (fun b => b (h 0 (by omega)))]; exact (if_pos hn).symm
 | 2, _, h, hn => rw [if_neg (fun b => b (h 0 (by omega))), if_neg (fun b => b (h 1 (by omega)))]; rfl
theorem cor_fn (x y z : Int) : FnSound Tryz.prog 86 [.val false [.d (.sl 1 (dInts [x, y, z]))]] [] { vals := [(false, [.d (.v (.int .i64 (if ¬ x = 0 then x else if ¬ y = 0 then y else z)))])] } := by
 have hlen : [x, y, z].length = 3 := rfl
 refine startW (tm := [(0, _)]) Tryz.func86 rfl Tryz.ntmps86 rfl rfl rfl rfl ?_
 repeat' (first
 |(with_reducible refine blk_at (id := 0) ?_); ((with_reducible refine JL.loopW 0 399 (fun (k : Nat) tm => (8, .one false [.d (.v (.int .i64 ((k : Int))))]) :: tm) (fun (k : Nat) bo => bo) (fun (k : Nat) => k ≤ 3 ∧ ∀ j, j < k → [x, y, z].getD j 0 = 0) (fun (k : Nat) => 3 - k) (0) ?_ (fun k hk => ?_) ?_); (focus (apply SubW [] rfl ?_ ?_ rfl ?_; (repeat' (first | exact kA | refine kB ?_ | refine kC ?_ ?_ | exact kD | fail)))))
 |((with_reducible refine round_next (i := k) (k + 1) ?_ ?_ ?_); (focus (apply SubW [] rfl ?_ ?_ rfl ?_; (repeat' (first | exact kA | refine kB ?_ | refine kC ?_ ?_ | exact kD | fail)))))
 |refine wA ?_
 |(refine wC ?_ ?_ <;> intro hc)
 |refine wB ?_ ?_
 |(with_reducible refine JL.block ?_)
 |(with_reducible refine F_at ?_); refine eW (vs := [(_, _)]) Tryz.results86 ?_; (focus (repeat' (first | exact oA | refine oB ?_ | refine oC ?_ ?_ | fail)))
 |exact oM
 |fail)
 all_goals first
  | exact ⟨Nat.zero_le _, fun j hj => absurd hj (Nat.not_lt_zero j)⟩
  | exact cor3 (by omega) hk.2 hc
  | (refine ⟨by omega, fun j hj => ?_⟩; by_cases e : j = k; (subst e; exact hc); exact hk.2 j (by omega))
  | (have h0 : x = 0 := hk.2 0 (by omega); have h1 : y = 0 := hk.2 1 (by omega); have h2 : z = 0 := hk.2 2 (by omega); rw [h0, h1, h2]; rfl)
  | trace_state
theorem pcmpM_fn (m n : MixD) (hm : m.base.length ≤ 1000 ∧ m.next.length ≤ 1000 ∧ m.held.length ≤ 1000) (hn : n.base.length ≤ 1000 ∧ n.next.length ≤ 1000 ∧ n.held.length ≤ 1000) : FnSound Tryz.prog 55 [.val true (mixC m), .val true (mixC n)] [] { vals := [(false, [.d (.v (.int .i64 (cmpM m n)))])] } := by
 refine startW (tm := [(0, _), (1, _)]) Tryz.func55 rfl Tryz.ntmps55 rfl rfl rfl rfl ?_
 repeat' (first
 |(with_reducible refine K_ca 87 ?_); (first
 |refine zC (scmpI_fn m.base n.base hm.1 hn.1) ?_
 |refine zC (scmpI_fn m.next n.next hm.2.1 hn.2.1) ?_)
 |(with_reducible refine K_ca 88 ?_); refine zC (scmpS_fn m.held n.held hm.2.2 hn.2.2) ?_
 |(with_reducible refine K_ca 86 ?_); refine zC (cor_fn (cmpL m.base n.base) (cmpL m.next n.next) (cmpL m.held n.held)) ?_
 |refine wA ?_
 |(refine wC ?_ ?_ <;> intro hc)
 |refine wB ?_ ?_
 |(with_reducible refine JL.block ?_)
 |(with_reducible refine F_at ?_); refine eW (vs := [(_, _)]) Tryz.results55 ?_; (focus (repeat' (first | exact oA | refine oB ?_ | refine oC ?_ ?_ | fail)))
 |exact oM
 |fail)
 all_goals first | rfl | trace_state
end Go.Proofs.YtdpeoolildjohaaGreatDoor

namespace Go.Proofs.YtdpeoolildjohaaGreatDoor
open Go Go.RowKit
set_option maxRecDepth 100000
set_option maxHeartbeats 8000000
set_option linter.unusedSimpArgs false
set_option linter.unusedVariables false
theorem qclonedD_fn (m : MixD) (hf : m.base.length ≤ 12 ∧ m.next.length ≤ 12 ∧ m.held.length ≤ 12) : FnSound Tryz.prog 119 [.val true (mixC m)] [] { vals := [(true, mixC m)] } := by
 refine startW (tm := [(0, _)]) Tryz.func119 rfl Tryz.ntmps119 rfl rfl rfl rfl ?_
 repeat' (first
 |(with_reducible refine K_ca 14 ?_); (first
 |refine zS (cloneInts_fn m.base (by omega)) ?_
 |refine zS (cloneInts_fn m.next (by omega)) ?_)
 |(with_reducible refine K_ca 95 ?_); refine zS (cloneSets_fn m.held (by omega)) ?_
 |refine wA ?_
 |(refine wC ?_ ?_ <;> intro hc)
 |refine wB ?_ ?_
 |(with_reducible refine JL.block ?_)
 |(with_reducible refine F_at ?_); refine eW (vs := [(_, _)]) Tryz.results119 ?_; (focus (repeat' (first | exact oA | refine oB ?_ | refine oC ?_ ?_ | fail)))
 |exact oM
 |fail)
 all_goals first | rfl | trace_state
theorem take1 {α : Type} {l : List α} {d : α} (h : 0 < l.length) : l.take 1 = [l.getD 0 d] := by
 cases l with
 | nil => simp at h
 | cons x r => rfl
theorem psrun_fn (p : Prob) (l : List StepD) (hp : PlanOK p l) (hv : PlanV p l) (hl : l.length ≤ 1000000) : FnSound Tryz.prog 84 [.val true (probC p), .val true (mixC (startM p)), .val false [.d (.sl 3 (dSteps l))]] [] { vals := [(false, [.d (.sl 3 (dMixes (mixesP p l)))]), (false, [.d (.v (.int .i64 l.length))]), (false, [.d (.v (.int .i64 0))])] } := by
 have hln := hp.len
 have hg := start_g hp.vp
 have hvp := vp_all hp.vp
 have hlb := hg.inn.lb
 have hlx := hg.inn.ln
 have hlh := hg.inn.lh
 have hcl := qclonedD_fn (startM p) (by omega)
 have hq : ∀ k, k < l.length → FnSound Tryz.prog 120 [.val true (probC p), .val true (mixC (((mixesP p l).take (k + 1)).getD k nilM)), .val true (stepC (l.getD k nilS))] [] { vals := [(true, mixC ((mixesP p l).getD (k + 1) nilM)), (false, [.d (.v (.int .i64 0))])] } := fun k hk => by
  have e : ((mixesP p l).take (k + 1)).getD k nilM = (mixesP p l).getD k nilM := by rw [List.getD_eq_getElem?_getD, List.getElem?_take_of_lt (by omega), ← List.getD_eq_getElem?_getD]
  have := qap_fn p ((mixesP p l).getD k nilM) (l.getD k nilS) (hv.valid (by omega)) (hp.g (by omega)).u
  rw [(hp.step hk).2.2] at this
  rw [e]; exact this
 have e0 : (mixesP p l).getD 0 nilM = startM p := by rw [hp.mix, tr_0]
 have e1 : (mixesP p l).take 1 = [startM p] := by rw [take1 (d := nilM) (by omega), e0]
 have e2 : ∀ k, (mixesP p l).length ≤ k + 1 → (mixesP p l).take (k + 1) = mixesP p l := fun k hk => List.take_of_length_le hk
 have hl2 : ∀ k, k ≤ l.length → ((mixesP p l).take (k + 1)).length = k + 1 := fun k hk => by rw [List.length_take]; omega
 refine startW (tm := [(0, _), (1, _), (2, _)]) Tryz.func84 rfl Tryz.ntmps84 rfl rfl rfl rfl ?_
 repeat' (first
 |(with_reducible refine K_ca 118 ?_); refine zC (pmixValidOK_fn hg.u (start_err hp.vp)) ?_
 |(with_reducible refine K_ca 119 ?_); refine zC (hcl) ?_
 |(with_reducible refine K_ca 120 ?_); refine zC (hq k (by omega)) ?_
 |(with_reducible refine blk_at (id := 0) ?_); (try (refine JL.zeroW 10 _ 37 3 rfl rfl ?_)); (refine JL.rekW 10 (1160, 651) rfl rfl rfl rfl ?_); ((with_reducible refine JL.loopW 0 699 (fun (k : Nat) tm => (26, .one false [.d (.v (.int .i64 ((k : Int))))]) :: (10, .one false [.own (1160, 651)]) :: tm) (fun (k : Nat) bo => ((1160, 651), some (.sl 37 3 ((dMixes ((mixesP p l).take (k + 1)))))) :: bo) (fun (k : Nat) => k ≤ l.length) (fun (k : Nat) => l.length - k) (0) ?_ (fun k hk => have h2 := hl2 k hk; ?_) ?_); (focus (apply SubW [((1160, 651), _)] rfl ?_ ?_ rfl ?_; (repeat' (first | exact kA | refine kB ?_ | refine kC ?_ ?_ | exact kD | fail)))))
 |((with_reducible refine round_next (i := k) (k + 1) ?_ ?_ ?_); (focus (apply SubW [((1160, 651), _)] rfl ?_ ?_ rfl ?_; (repeat' (first | exact kA | refine kB ?_ | refine kC ?_ ?_ | exact kD | fail)))))
 |refine wA ?_
 |(refine wC ?_ ?_ <;> intro hc)
 |refine wB ?_ ?_
 |(with_reducible refine JL.block ?_)
 |(with_reducible refine F_at ?_); refine eW (vs := [(_, _), (_, _), (_, _)]) Tryz.results84 ?_; (focus (repeat' (first | exact oA | refine oB ?_ | refine oC ?_ ?_ | fail)))
 |exact oM
 |fail)
 all_goals first
  | rfl
  | (exfalso; omega)
  | (rw [e1]; rfl)
  | (rw [take_snoc (by omega)]; done)
  | (rw [← take_snoc (d := nilM) (by omega)]; done)
  | (rw [e2 _ (by omega)]; done)
  | trace_state
def scC (p : Prob) (l : List StepD) : List C := [.d (.sl 1 (dInts p.vs)), .d (.sl 1 (dInts p.now)), .d (.sl 1 (dInts p.tgt)), .d (.sl 6 (dTabs p.tabs)), .d (.sl 3 (dSteps l)), .d (.sl 3 (dMixes (mixesP p l)))]
theorem pscript_fn (p : Prob) (l : List StepD) (h : vpErr p = 0) (hc : checkP p l = true) (hl : l.length ≤ 1000000) : FnSound Tryz.prog 51 [.val true (probC p), .val false [.d (.sl 3 (dSteps l))]] [] { vals := [(true, scC p l), (false, [.d (.v (.int .i64 0))])] } := by
 have hk := pcheck_fn p l h hl
 rw [hc] at hk
 have hr := psrun_fn p l (planOK_of h (start_err h) hc) (planV_of h hc) hl
 refine startW (tm := [(0, _), (1, _)]) Tryz.func51 rfl Tryz.ntmps51 rfl rfl rfl rfl ?_
 repeat' (first
 |(with_reducible refine K_ca 77 ?_); refine zC (pvpOK_fn h) ?_
 |(with_reducible refine K_ca 46 ?_); refine zC (hk) ?_
 |(with_reducible refine K_ca 47 ?_); refine zC (pstart_fn p h) ?_
 |(with_reducible refine K_ca 84 ?_); refine zC (hr) ?_
 |refine wA ?_
 |(refine wC ?_ ?_ <;> intro hc)
 |refine wB ?_ ?_
 |(with_reducible refine JL.block ?_)
 |(with_reducible refine F_at ?_); refine eW (vs := [(_, _), (_, _)]) Tryz.results51 ?_; (focus (repeat' (first | exact oA | refine oB ?_ | refine oC ?_ ?_ | fail)))
 |exact oM
 |fail)
 all_goals first | rfl | trace_state
theorem psab_fn (p : Prob) (l : List StepD) (a : Int) (hp : PlanOK p l) (hv : PlanV p l) (hl : l.length ≤ 1000000) (ha : 0 ≤ a ∧ a < l.length) (hk : (l.getD a.toNat nilS).kind = 1) : FnSound Tryz.prog 56 [.val true (scC p l), .val false [.d (.v (.int .i64 a))]] [] { vals := [(true, mixC (abortedP p l a))] } := by
 have hln := hp.len
 have hst := (hp.step (k := a.toNat) (by omega)).1
 have hsv := hst.svc (by omega)
 have hnn := hst.nn
 obtain ⟨s1, s2⟩ := abort_ok (p := p) (i := (l.getD a.toNat nilS).idx) ⟨hnn, hsv⟩
 have hap := apply_some (hv.valid (k := (a + 1).toNat) (by omega)) s1 s2 (hp.abort ha hk).2.2
 have hq := qapply_fn p ((mixesP p l).getD (a + 1).toNat nilM) ⟨4, (l.getD a.toNat nilS).idx, 0⟩ (hp.g (k := (a + 1).toNat) (by omega)).u
 rw [hap] at hq
 clear hap s1 s2 hst
 refine startW (tm := [(0, _), (1, _)]) Tryz.func56 rfl Tryz.ntmps56 rfl rfl rfl rfl ?_
 repeat' (first
 |(with_reducible refine K_ca 89 ?_); refine zC (hq) ?_
 |refine wA ?_
 |(refine wC ?_ ?_ <;> intro hc)
 |refine wB ?_ ?_
 |(with_reducible refine JL.block ?_)
 |(with_reducible refine F_at ?_); refine eW (vs := [(_, _)]) Tryz.results56 ?_; (focus (repeat' (first | exact oA | refine oB ?_ | refine oC ?_ ?_ | fail)))
 |exact oM
 |fail)
 all_goals first | rfl | trace_state
theorem psexpect_fn (p : Prob) (l : List StepD) (a ph : Int) (h : vpErr p = 0) (hc : checkP p l = true) (hl : l.length ≤ 1000000) : FnSound Tryz.prog 52 [.val true (scC p l), .val false [.d (.v (.int .i64 a))], .val false [.d (.v (.int .i64 ph))]] [] { vals := [(true, mixC (expectP p l a ph).1), (false, [.d (.v (.int .i64 (expectP p l a ph).2))])] } := by
 have hp := planOK_of h (start_err h) hc
 have hv := planV_of h hc
 have hln := hp.len
 have e : expectP p l a ph = if a < 0 ∨ l.length < a ∨ ¬ (ph = 6 ↔ a = l.length) then (nilM, 7)
     else if ph = 0 ∨ ph = 6 ∨ (ph = 1 ∧ kindP l a = 2) ∨ (ph = 4 ∧ kindP l a = 3) then ((mixesP p l).getD a.toNat nilM, 0)
     else if (ph = 1 ∨ ph = 2 ∨ ph = 3) ∧ kindP l a = 1 then ((mixesP p l).getD (a + 1).toNat nilM, 0)
     else if ph = 5 ∧ kindP l a = 1 then (abortedP p l a, 0)
     else (nilM, 7) := by unfold expectP; rw [if_neg (by simpa using h), if_neg (by rw [hc]; decide)]
 rw [e]
 clear e
 have hkl : a < l.length → kindP l a = (l.getD a.toNat nilS).kind := fun b => by unfold kindP; rw [if_pos b]
 generalize kindP l a = kk at hkl
 by_cases hr : a < 0 ∨ l.length < a ∨ ¬ (ph = 6 ↔ a = l.length)
 ·rw [if_pos hr]
  refine startW (tm := [(0, _), (1, _), (2, _)]) Tryz.func52 rfl Tryz.ntmps52 rfl rfl rfl rfl ?_
  repeat' (first
 |refine wA ?_
 |(refine wC ?_ ?_ <;> intro hc)
 |refine wB ?_ ?_
 |(with_reducible refine JL.block ?_)
 |(with_reducible refine F_at ?_); refine eW (vs := [(_, _), (_, _)]) Tryz.results52 ?_; (focus (repeat' (first | exact oA | refine oB ?_ | refine oC ?_ ?_ | fail)))
 |exact oM
 |fail)
  all_goals (first | rfl | (exfalso; grind) | trace_state)
 ·rw [if_neg hr]
  have h1 : 0 ≤ a := by omega
  have h2 : a ≤ l.length := by omega
  have h3 : ph = 6 → a = l.length := by omega
  have h4 : a = l.length → ph = 6 := by omega
  clear hr
  refine startW (tm := [(0, _), (1, _), (2, _)]) Tryz.func52 rfl Tryz.ntmps52 rfl rfl rfl rfl ?_
  repeat' (first
 |(with_reducible refine K_ca 56 ?_); refine zC (psab_fn p l a hp hv hl (by omega) (by omega)) ?_
 |refine wA ?_
 |(refine wC ?_ ?_ <;> intro hc)
 |refine wB ?_ ?_
 |(with_reducible refine JL.block ?_)
 |(with_reducible refine F_at ?_); refine eW (vs := [(_, _), (_, _)]) Tryz.results52 ?_; (focus (repeat' (first | exact oA | refine oB ?_ | refine oC ?_ ?_ | fail)))
 |exact oM
 |fail)
  all_goals (clear hp hv h; (repeat' split) <;> first | rfl | (exfalso; grind) | trace_state)
end Go.Proofs.YtdpeoolildjohaaGreatDoor

