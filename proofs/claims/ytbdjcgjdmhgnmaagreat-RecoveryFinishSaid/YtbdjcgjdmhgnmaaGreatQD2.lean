/- Rules of runs and contracts of functions, for the claims of one seat. -/
import Derived.Test.YtbdjcgjdmhgnmaaGreatQA14
import Derived.Test.YtbdjcgjdmhgnmaaGreatQA21
import Derived.Test.YtbdjcgjdmhgnmaaGreatQA26
import Derived.Test.YtbdjcgjdmhgnmaaGreatQD1
namespace Go.Proofs.YtbdjcgjdmhgnmaaGreat
open Go Go.RowKit
set_option maxRecDepth 100000
set_option maxHeartbeats 8000000
set_option linter.unusedSimpArgs false
set_option linter.unusedVariables false
theorem mtick_fn (p : Prob) (rs : List Int) (c : CtlD) (a : List ActD) (h : CtlK p c) (hv : PlanV p c.plan) (hs : setErr p rs = 0) (hl : c.plan.length ≤ 1000000) (hrd : -1000000000 ≤ c.round ∧ c.round ≤ 1000000000) (hla : a.length ≤ 800) : FnSound Tryz.prog 117 [.io 140 (machC p rs c (1000, 0))] (actB a) (mRes p rs (tickP p rs c).1 (a ++ (tickP p rs c).2)) := by
 by_cases hp : c.phase = 0
 ·have e : tickP p rs c = (beginC p rs c, entA c 1 :: repeatP (beginC p rs c)) := by unfold tickP; rw [if_neg (fun b => b hp)]
  have hbg := mbegin_fn p rs c a h hv hs hl hrd (by omega) hp
  have hrp := mrepeat_fn p rs (beginC p rs c) (a ++ [entA c 1]) (h.begin hp) hl (by simp; omega)
  rw [e]
  show FnSound _ _ _ _ (mRes p rs (beginC p rs c) (a ++ entA c 1 :: repeatP (beginC p rs c)))
  rw [List.append_cons]
  clear h hv hs e
  refine startK (tm := [(0, _)]) (mBo p rs c a) Tryz.func117 rfl Tryz.ntmps117 rfl rfl rfl rfl ?_
  repeat' (first
 |(with_reducible refine K_ca 149 ?_); refine zT (hbg) ?_
 |(with_reducible refine K_ca 150 ?_); refine zT (hrp) ?_
 |refine wA ?_
 |(refine wC ?_ ?_ <;> intro hc)
 |refine wB ?_ ?_
 |(with_reducible refine JL.block ?_)
 |(with_reducible refine FK_at ?_); refine eK Tryz.results117 ?_
 |exact oM
 |fail)
  all_goals first | (exfalso; omega) | kernel_rfl
 ·have e : tickP p rs c = (c, repeatP c) := by unfold tickP; rw [if_pos hp]
  have hrp := mrepeat_fn p rs c a h hl (by omega)
  rw [e]
  clear h hv hs e
  refine startK (tm := [(0, _)]) (mBo p rs c a) Tryz.func117 rfl Tryz.ntmps117 rfl rfl rfl rfl ?_
  repeat' (first
 |(with_reducible refine K_ca 150 ?_); refine zT (hrp) ?_
 |refine wA ?_
 |(refine wC ?_ ?_ <;> intro hc)
 |refine wB ?_ ?_
 |(with_reducible refine JL.block ?_)
 |(with_reducible refine FK_at ?_); refine eK Tryz.results117 ?_
 |exact oM
 |fail)
  all_goals first | (exfalso; omega) | kernel_rfl
theorem mack0_fn (p : Prob) (rs : List Int) (c : CtlD) (a : List ActD) (k tk rd rp vr tb : Int) (pa : Bool) (h : CtlK p c) (hl : c.plan.length ≤ 1000000) (hla : a.length ≤ 900) (hn : ¬ (c.phase = 1 ∨ c.phase = 3) ∨ ¬ (c.round = rd ∧ c.replica = rp ∧ wantedP c = vr)) : FnSound Tryz.prog 118 [.io 140 (machC p rs c (1000, 0)), .val true [.d (.v (.int .i64 k)), .d (.v (.int .i64 tk)), .d (.v (.int .i64 rd)), .d (.v (.int .i64 rp)), .d (.v (.int .i64 vr)), .d (.v (.bool pa)), .d (.v (.int .i64 tb))]] (actB a) (mRes p rs c a) := by
 have h0 := fun b => (⟨h.rng.1, h.lt b⟩ : 0 ≤ c.at_ ∧ c.at_ < c.plan.length)
 have hk1 := h.ph1
 have hk2 := h.ph2
 have hi := fun b : c.phase = 1 ∨ c.phase = 3 => h.svc (by omega) (by rcases b with b | b; (rcases hk1 b with x | x <;> omega); have := (hk2 (.inr b)).1; omega)
 have hcm := fun b i => mcommand_fn p rs c a b hl i
 clear h hk1 hk2
 by_cases hp : c.phase = 1 ∨ c.phase = 3
 ·have hne : decide (c.round = rd ∧ c.replica = rp ∧ wantedP c = vr) = false := decide_eq_false (by rcases hn with b | b; exact absurd hp b; exact b)
  have hi := hi hp
  have hcm := hcm (h0 (by omega)) (by omega)
  clear hn
  refine startK (tm := [(0, _), (1, _)]) (mBo p rs c a) Tryz.func118 rfl Tryz.ntmps118 rfl rfl rfl rfl ?_
  repeat' (first
 |(with_reducible refine JL.regionW (lend := (fun g => g == 151 || g == 120)) (id := 5) 500 mo ?_ ?_); exact rfl
 |(with_reducible refine JL.regionW (lend := (fun g => g == 151 || g == 120)) (id := 6) 600 mo ?_ ?_); exact rfl
 |(with_reducible refine JL.regionW (lend := (fun g => g == 151 || g == 120)) (id := 7) 700 mo ?_ ?_); exact rfl
 |(with_reducible refine JL.regionW (lend := (fun g => g == 151 || g == 120)) (id := 8) 800 mo ?_ ?_); exact rfl
 |(with_reducible refine JL.regionW (lend := (fun g => g == 151 || g == 120)) (id := 9) 900 mo ?_ ?_); exact rfl
 |(with_reducible refine JL.regionW (lend := (fun g => g == 151 || g == 120)) (id := 10) 1000 mo ?_ ?_); exact rfl
 |(with_reducible refine JL.regionW (lend := (fun g => g == 151 || g == 120)) (id := 11) 1100 mo ?_ ?_); exact rfl
 |(with_reducible refine JL.regionW (lend := (fun g => g == 151 || g == 120)) (id := 4) 1200 mo ?_ ?_); exact rfl
 |(with_reducible refine rgL (fun g => g == 151 || g == 120) ?_ ?_); exact rfl
 |(with_reducible refine K_ca 151 ?_); refine zC (hcm) ?_
 |(with_reducible refine W_at ?_); (first
 |(refine W.neCmd hne rfl rfl rfl ?_))
 |refine wA ?_
 |(refine wC ?_ ?_ <;> intro hc)
 |refine wB ?_ ?_
 |(with_reducible refine JL.block ?_)
 |(with_reducible refine FK_at ?_); refine eK Tryz.results118 ?_
 |exact oM
 |fail)
  all_goals first | (exfalso; omega) | kernel_rfl
 ·clear hi hcm hn
  refine startK (tm := [(0, _), (1, _)]) (mBo p rs c a) Tryz.func118 rfl Tryz.ntmps118 rfl rfl rfl rfl ?_
  repeat' (first
 |(with_reducible refine rgn 5 500 ?_ ?_); exact rfl
 |(with_reducible refine rgn 6 600 ?_ ?_); exact rfl
 |(with_reducible refine rgn 7 700 ?_ ?_); exact rfl
 |(with_reducible refine rgn 8 800 ?_ ?_); exact rfl
 |(with_reducible refine rgn 9 900 ?_ ?_); exact rfl
 |(with_reducible refine rgn 10 1000 ?_ ?_); exact rfl
 |(with_reducible refine rgn 11 1100 ?_ ?_); exact rfl
 |(with_reducible refine rgn 4 1200 ?_ ?_); exact rfl
 |refine wA ?_
 |(refine wC ?_ ?_ <;> intro hc)
 |refine wB ?_ ?_
 |(with_reducible refine JL.block ?_)
 |(with_reducible refine FK_at ?_); refine eK Tryz.results118 ?_
 |exact oM
 |fail)
  all_goals first | (exfalso; omega) | kernel_rfl
theorem fr_get {rs : List Int} {i : Int} (h : ∀ k, k < rs.length → 1 ≤ rs.getD k 0 ∧ rs.getD k 0 ≤ 4) (hl : rs.length ≤ 100) (hi : 0 ≤ i ∧ i < rs.length) : 0 ≤ firstR rs i ∧ firstR rs i ≤ 400 ∧ 1 ≤ rs.getD i.toNat 0 ∧ rs.getD i.toNat 0 ≤ 4 := by
 have h1 := firstR_rng h hl i
 have h2 := h i.toNat (by omega)
 omega
theorem mack1_fn (p : Prob) (rs : List Int) (c : CtlD) (a : List ActD) (k tk rd rp vr tb : Int) (pa : Bool) (h : CtlK p c) (hv : PlanV p c.plan) (hr : CtlR p rs c) (hs : setErr p rs = 0) (hl : c.plan.length ≤ 1000000) (hrd : -1000000000 ≤ c.round ∧ c.round ≤ 1000000000) (hla : a.length ≤ 800) (hrp : -1000000000 ≤ c.replica ∧ c.replica ≤ 1000000000) (hp : c.phase = 1 ∨ c.phase = 3) (he : c.round = rd ∧ c.replica = rp ∧ wantedP c = vr) : FnSound Tryz.prog 118 [.io 140 (machC p rs c (1000, 0)), .val true [.d (.v (.int .i64 k)), .d (.v (.int .i64 tk)), .d (.v (.int .i64 rd)), .d (.v (.int .i64 rp)), .d (.v (.int .i64 vr)), .d (.v (.bool pa)), .d (.v (.int .i64 tb))]] (actB a) (mRes p rs (ackP p rs c ⟨k, tk, rd, rp, vr, pa, tb⟩).1 (a ++ (ackP p rs c ⟨k, tk, rd, rp, vr, pa, tb⟩).2)) := by
 have hso := setErr_ok hs
 have hvp := vp_all hso.1
 have hrl := hso.2.1
 have h0 : 0 ≤ c.at_ ∧ c.at_ < c.plan.length := ⟨h.rng.1, h.lt (by omega)⟩
 have hk1 := h.ph1
 have hk2 := h.ph2
 have hi := h.svc (by omega) (by rcases hp with b | b; (rcases hk1 b with x | x <;> omega); have := (hk2 (.inr b)).1; omega)
 have hcm := mcommand_fn p rs c a h0 hl (by omega)
 have hpr := mpresent_fn p rs c a h0 hl (present c) rfl
 have hne : decide (c.round = rd ∧ c.replica = rp ∧ wantedP c = vr) = true := decide_eq_true he
 have hfr := cfirst_fn rs (present c).idx (by omega) hso.2.2 (by omega)
 have hfg := fr_get hso.2.2 (by omega) (i := (present c).idx) (by omega)
 have e0 : ¬ (¬ rp = c.replica ∨ ¬ vr = wantedP c) := by omega
 by_cases p3 : c.phase = 3
 ·have e : ackP p rs c ⟨k, tk, rd, rp, vr, pa, tb⟩ = (⟨c.plan, c.at_, 5, 0, c.round, c.token, abortedP p c.plan c.at_⟩, []) := by
    unfold ackP
    rw [if_neg e0, if_pos p3]
  have hmv := mmove_fn p rs c.plan c.at_ c.phase c.replica c.round c.token c.mix a ⟨4, (present c).idx, 0⟩ _ h.g.u (h.aborts hv p3)
  rw [e, List.append_nil]
  clear h hv hr hs hso hvp hk1 hk2 e hfr hfg
  refine startK (tm := [(0, _), (1, _)]) (mBo p rs c a) Tryz.func118 rfl Tryz.ntmps118 rfl rfl rfl rfl ?_
  repeat' (first
 |(with_reducible refine JL.regionW (lend := (fun g => g == 151 || g == 120)) (id := 5) 500 mo ?_ ?_); exact rfl
 |(with_reducible refine JL.regionW (lend := (fun g => g == 151 || g == 120)) (id := 6) 600 mo ?_ ?_); exact rfl
 |(with_reducible refine JL.regionW (lend := (fun g => g == 151 || g == 120)) (id := 7) 700 mo ?_ ?_); exact rfl
 |(with_reducible refine JL.regionW (lend := (fun g => g == 151 || g == 120)) (id := 8) 800 mo ?_ ?_); exact rfl
 |(with_reducible refine JL.regionW (lend := (fun g => g == 151 || g == 120)) (id := 9) 900 mo ?_ ?_); exact rfl
 |(with_reducible refine JL.regionW (lend := (fun g => g == 151 || g == 120)) (id := 10) 1000 mo ?_ ?_); exact rfl
 |(with_reducible refine JL.regionW (lend := (fun g => g == 151 || g == 120)) (id := 11) 1100 mo ?_ ?_); exact rfl
 |(with_reducible refine JL.regionW (lend := (fun g => g == 151 || g == 120)) (id := 4) 1200 mo ?_ ?_); exact rfl
 |(with_reducible refine rgL (fun g => g == 151 || g == 120) ?_ ?_); exact rfl
 |(with_reducible refine K_ca 151 ?_); refine zC (hcm) ?_
 |(with_reducible refine K_ca 120 ?_); refine zC (hpr) ?_
 |(with_reducible refine K_ca 152 ?_); refine zT (hmv) ?_
 |(with_reducible refine W_at ?_); (first
 |(refine W.neCmd hne rfl rfl rfl ?_))
 |refine wA ?_
 |(refine wC ?_ ?_ <;> intro hc)
 |refine wB ?_ ?_
 |(with_reducible refine JL.block ?_)
 |(with_reducible refine FK_at ?_); refine eK Tryz.results118 ?_
 |exact oM
 |fail)
  all_goals first | (exfalso; omega) | kernel_rfl
 ·have p1 : c.phase = 1 := by omega
  by_cases k1 : (present c).kind = 1
  ·have e : ackP p rs c ⟨k, tk, rd, rp, vr, pa, tb⟩ = (⟨c.plan, c.at_, 2, c.replica, c.round, c.token, c.mix⟩, repeatP ⟨c.plan, c.at_, 2, c.replica, c.round, c.token, c.mix⟩) := by
     unfold ackP
     rw [if_neg e0, if_neg p3, if_pos k1]
   have hrp2 := mrepeat_fn p rs ⟨c.plan, c.at_, 2, c.replica, c.round, c.token, c.mix⟩ a (h.probe p1 k1) hl (by omega)
   rw [e]
   clear h hv hr hs hso hvp hk1 hk2 e hfr hfg
   refine startK (tm := [(0, _), (1, _)]) (mBo p rs c a) Tryz.func118 rfl Tryz.ntmps118 rfl rfl rfl rfl ?_
   repeat' (first
 |(with_reducible refine JL.regionW (lend := (fun g => g == 151 || g == 120)) (id := 5) 500 mo ?_ ?_); exact rfl
 |(with_reducible refine JL.regionW (lend := (fun g => g == 151 || g == 120)) (id := 6) 600 mo ?_ ?_); exact rfl
 |(with_reducible refine JL.regionW (lend := (fun g => g == 151 || g == 120)) (id := 7) 700 mo ?_ ?_); exact rfl
 |(with_reducible refine JL.regionW (lend := (fun g => g == 151 || g == 120)) (id := 8) 800 mo ?_ ?_); exact rfl
 |(with_reducible refine JL.regionW (lend := (fun g => g == 151 || g == 120)) (id := 9) 900 mo ?_ ?_); exact rfl
 |(with_reducible refine JL.regionW (lend := (fun g => g == 151 || g == 120)) (id := 10) 1000 mo ?_ ?_); exact rfl
 |(with_reducible refine JL.regionW (lend := (fun g => g == 151 || g == 120)) (id := 11) 1100 mo ?_ ?_); exact rfl
 |(with_reducible refine JL.regionW (lend := (fun g => g == 151 || g == 120)) (id := 4) 1200 mo ?_ ?_); exact rfl
 |(with_reducible refine rgL (fun g => g == 151 || g == 120) ?_ ?_); exact rfl
 |(with_reducible refine K_ca 151 ?_); refine zC (hcm) ?_
 |(with_reducible refine K_ca 120 ?_); refine zC (hpr) ?_
 |(with_reducible refine K_ca 150 ?_); refine zT (hrp2) ?_
 |(with_reducible refine W_at ?_); (first
 |(refine W.neCmd hne rfl rfl rfl ?_))
 |refine wA ?_
 |(refine wC ?_ ?_ <;> intro hc)
 |refine wB ?_ ?_
 |(with_reducible refine JL.block ?_)
 |(with_reducible refine FK_at ?_); refine eK Tryz.results118 ?_
 |exact oM
 |fail)
   all_goals first | (exfalso; omega) | kernel_rfl
  ·have k2 : (present c).kind = 2 := by rcases hk1 p1 with x | x <;> omega
   have hbz := hr.some_ p1 k2
   by_cases hq : c.replica = firstR rs (present c).idx + rs.getD (present c).idx.toNat 0 - 1
   ·have e : ackP p rs c ⟨k, tk, rd, rp, vr, pa, tb⟩ = (doneC p c, [entA c 2]) := by
      unfold ackP
      rw [if_neg e0, if_neg p3, if_neg k1, if_pos hq]
    have hdn := mdone_fn p rs c a h hv hs hl hrd (by omega) (.inl ⟨p1, k2⟩)
    rw [e]
    clear h hv hr hs hso hvp hk1 hk2 e
    refine startK (tm := [(0, _), (1, _)]) (mBo p rs c a) Tryz.func118 rfl Tryz.ntmps118 rfl rfl rfl rfl ?_
    repeat' (first
 |(with_reducible refine JL.regionW (lend := (fun g => g == 151 || g == 120)) (id := 5) 500 mo ?_ ?_); exact rfl
 |(with_reducible refine JL.regionW (lend := (fun g => g == 151 || g == 120)) (id := 6) 600 mo ?_ ?_); exact rfl
 |(with_reducible refine JL.regionW (lend := (fun g => g == 151 || g == 120)) (id := 7) 700 mo ?_ ?_); exact rfl
 |(with_reducible refine JL.regionW (lend := (fun g => g == 151 || g == 120)) (id := 8) 800 mo ?_ ?_); exact rfl
 |(with_reducible refine JL.regionW (lend := (fun g => g == 151 || g == 120)) (id := 9) 900 mo ?_ ?_); exact rfl
 |(with_reducible refine JL.regionW (lend := (fun g => g == 151 || g == 120)) (id := 10) 1000 mo ?_ ?_); exact rfl
 |(with_reducible refine JL.regionW (lend := (fun g => g == 151 || g == 120)) (id := 11) 1100 mo ?_ ?_); exact rfl
 |(with_reducible refine JL.regionW (lend := (fun g => g == 151 || g == 120)) (id := 4) 1200 mo ?_ ?_); exact rfl
 |(with_reducible refine rgL (fun g => g == 151 || g == 120) ?_ ?_); exact rfl
 |(with_reducible refine K_ca 151 ?_); refine zC (hcm) ?_
 |(with_reducible refine K_ca 120 ?_); refine zC (hpr) ?_
 |(with_reducible refine K_ca 100 ?_); refine zC (hfr) ?_
 |(with_reducible refine K_ca 121 ?_); refine zT (hdn) ?_
 |(with_reducible refine W_at ?_); (first
 |(refine W.neCmd hne rfl rfl rfl ?_))
 |refine wA ?_
 |(refine wC ?_ ?_ <;> intro hc)
 |refine wB ?_ ?_
 |(with_reducible refine JL.block ?_)
 |(with_reducible refine FK_at ?_); refine eK Tryz.results118 ?_
 |exact oM
 |fail)
    all_goals first | (exfalso; omega) | kernel_rfl
   ·have e : ackP p rs c ⟨k, tk, rd, rp, vr, pa, tb⟩ = (⟨c.plan, c.at_, c.phase, c.replica + 1, c.round, c.token, c.mix⟩, repeatP ⟨c.plan, c.at_, c.phase, c.replica + 1, c.round, c.token, c.mix⟩) := by
      unfold ackP
      rw [if_neg e0, if_neg p3, if_neg k1, if_neg hq, w64_is (by omega)]
    have hrp2 := mrepeat_fn p rs ⟨c.plan, c.at_, c.phase, c.replica + 1, c.round, c.token, c.mix⟩ a (h.replica _) hl (by omega)
    rw [e]
    clear h hv hr hs hso hvp hk1 hk2 e
    refine startK (tm := [(0, _), (1, _)]) (mBo p rs c a) Tryz.func118 rfl Tryz.ntmps118 rfl rfl rfl rfl ?_
    repeat' (first
 |(with_reducible refine JL.regionW (lend := (fun g => g == 151 || g == 120)) (id := 5) 500 mo ?_ ?_); exact rfl
 |(with_reducible refine JL.regionW (lend := (fun g => g == 151 || g == 120)) (id := 6) 600 mo ?_ ?_); exact rfl
 |(with_reducible refine JL.regionW (lend := (fun g => g == 151 || g == 120)) (id := 7) 700 mo ?_ ?_); exact rfl
 |(with_reducible refine JL.regionW (lend := (fun g => g == 151 || g == 120)) (id := 8) 800 mo ?_ ?_); exact rfl
 |(with_reducible refine JL.regionW (lend := (fun g => g == 151 || g == 120)) (id := 9) 900 mo ?_ ?_); exact rfl
 |(with_reducible refine JL.regionW (lend := (fun g => g == 151 || g == 120)) (id := 10) 1000 mo ?_ ?_); exact rfl
 |(with_reducible refine JL.regionW (lend := (fun g => g == 151 || g == 120)) (id := 11) 1100 mo ?_ ?_); exact rfl
 |(with_reducible refine JL.regionW (lend := (fun g => g == 151 || g == 120)) (id := 4) 1200 mo ?_ ?_); exact rfl
 |(with_reducible refine rgL (fun g => g == 151 || g == 120) ?_ ?_); exact rfl
 |(with_reducible refine K_ca 151 ?_); refine zC (hcm) ?_
 |(with_reducible refine K_ca 120 ?_); refine zC (hpr) ?_
 |(with_reducible refine K_ca 100 ?_); refine zC (hfr) ?_
 |(with_reducible refine K_ca 150 ?_); refine zT (hrp2) ?_
 |(with_reducible refine W_at ?_); (first
 |(refine W.neCmd hne rfl rfl rfl ?_))
 |refine wA ?_
 |(refine wC ?_ ?_ <;> intro hc)
 |refine wB ?_ ?_
 |(with_reducible refine JL.block ?_)
 |(with_reducible refine FK_at ?_); refine eK Tryz.results118 ?_
 |exact oM
 |fail)
    all_goals first | (exfalso; omega) | kernel_rfl
end Go.Proofs.YtbdjcgjdmhgnmaaGreat

namespace Go.Proofs.YtbdjcgjdmhgnmaaGreat
open Go Go.RowKit
set_option maxRecDepth 100000
set_option maxHeartbeats 8000000
set_option linter.unusedSimpArgs false
set_option linter.unusedVariables false
theorem mgate0_fn (p : Prob) (rs : List Int) (c : CtlD) (a : List ActD) (k tk rd rp vr tb : Int) (pa : Bool) (hn : ¬ c.phase = 2 ∨ ¬ rd = c.round) : FnSound Tryz.prog 119 [.io 140 (machC p rs c (1000, 0)), .val true [.d (.v (.int .i64 k)), .d (.v (.int .i64 tk)), .d (.v (.int .i64 rd)), .d (.v (.int .i64 rp)), .d (.v (.int .i64 vr)), .d (.v (.bool pa)), .d (.v (.int .i64 tb))]] (actB a) (mRes p rs c a) := by
 refine startK (tm := [(0, _), (1, _)]) (mBo p rs c a) Tryz.func119 rfl Tryz.ntmps119 rfl rfl rfl rfl ?_
 repeat' (first
 |refine wA ?_
 |(refine wC ?_ ?_ <;> intro hc)
 |refine wB ?_ ?_
 |(with_reducible refine JL.block ?_)
 |(with_reducible refine FK_at ?_); refine eK Tryz.results119 ?_
 |exact oM
 |fail)
 all_goals first | (exfalso; omega) | kernel_rfl
theorem mgate1_fn (p : Prob) (rs : List Int) (c : CtlD) (a : List ActD) (k tk rd rp vr tb : Int) (h : CtlK p c) (hv : PlanV p c.plan) (hs : setErr p rs = 0) (hl : c.plan.length ≤ 1000000) (hrd : -1000000000 ≤ c.round ∧ c.round ≤ 1000000000) (hla : a.length ≤ 800) (hp : c.phase = 2) (he : rd = c.round) : FnSound Tryz.prog 119 [.io 140 (machC p rs c (1000, 0)), .val true [.d (.v (.int .i64 k)), .d (.v (.int .i64 tk)), .d (.v (.int .i64 rd)), .d (.v (.int .i64 rp)), .d (.v (.int .i64 vr)), .d (.v (.bool true)), .d (.v (.int .i64 tb))]] (actB a) (mRes p rs (doneC p c) (a ++ [entA c 2])) := by
 have hdn := mdone_fn p rs c a h hv hs hl hrd (by omega) (.inr (.inl hp))
 clear h hv hs
 refine startK (tm := [(0, _), (1, _)]) (mBo p rs c a) Tryz.func119 rfl Tryz.ntmps119 rfl rfl rfl rfl ?_
 repeat' (first
 |(with_reducible refine K_ca 121 ?_); refine zT (hdn) ?_
 |refine wA ?_
 |(refine wC ?_ ?_ <;> intro hc)
 |refine wB ?_ ?_
 |(with_reducible refine JL.block ?_)
 |(with_reducible refine FK_at ?_); refine eK Tryz.results119 ?_
 |exact oM
 |fail)
 all_goals first | (exfalso; omega) | kernel_rfl
theorem mgate2_fn (p : Prob) (rs : List Int) (c : CtlD) (a : List ActD) (k tk rd rp vr tb : Int) (h : CtlK p c) (hv : PlanV p c.plan) (hs : setErr p rs = 0) (hl : c.plan.length ≤ 1000000) (hrd : -1000000000 ≤ c.round ∧ c.round ≤ 1000000000) (hla : a.length ≤ 800) (hp : c.phase = 2) (he : rd = c.round) : FnSound Tryz.prog 119 [.io 140 (machC p rs c (1000, 0)), .val true [.d (.v (.int .i64 k)), .d (.v (.int .i64 tk)), .d (.v (.int .i64 rd)), .d (.v (.int .i64 rp)), .d (.v (.int .i64 vr)), .d (.v (.bool false)), .d (.v (.int .i64 tb))]] (actB a) (mRes p rs ⟨c.plan, c.at_, 3, c.replica, c.round + 1, c.token, c.mix⟩ (a ++ entA c 3 :: repeatP ⟨c.plan, c.at_, 3, c.replica, c.round + 1, c.token, c.mix⟩)) := by
 have hrp2 := mrepeat_fn p rs ⟨c.plan, c.at_, 3, c.replica, c.round + 1, c.token, c.mix⟩ (a ++ [entA c 3]) ((h.gateNo hp).round (c.round + 1)) hl (by simp; omega)
 rw [List.append_cons]
 clear h hv hs
 refine startK (tm := [(0, _), (1, _)]) (mBo p rs c a) Tryz.func119 rfl Tryz.ntmps119 rfl rfl rfl rfl ?_
 repeat' (first
 |(with_reducible refine K_ca 122 ?_); refine zT (mwrite_fn p rs c a 3 hrd (by omega)) ?_
 |(with_reducible refine K_ca 150 ?_); refine zT (hrp2) ?_
 |refine wA ?_
 |(refine wC ?_ ?_ <;> intro hc)
 |refine wB ?_ ?_
 |(with_reducible refine JL.block ?_)
 |(with_reducible refine FK_at ?_); refine eK Tryz.results119 ?_
 |exact oM
 |fail)
 all_goals first | (exfalso; omega) | kernel_rfl
theorem msig1n_fn (p : Prob) (rs : List Int) (c : CtlD) (a : List ActD) (tk rd rp vr tb : Int) (pa : Bool) (ht : tk ≤ c.token) : FnSound Tryz.prog 78 [.io 140 (machC p rs c (1000, 0)), .val true [.d (.v (.int .i64 1)), .d (.v (.int .i64 tk)), .d (.v (.int .i64 rd)), .d (.v (.int .i64 rp)), .d (.v (.int .i64 vr)), .d (.v (.bool pa)), .d (.v (.int .i64 tb))]] (actB a) (mRes p rs c a) := by
 refine startK (tm := [(0, _), (1, _)]) (mBo p rs c a) Tryz.func78 rfl Tryz.ntmps78 rfl rfl rfl rfl ?_
 repeat' (first
 |refine wA ?_
 |(refine wC ?_ ?_ <;> intro hc)
 |refine wB ?_ ?_
 |(with_reducible refine JL.block ?_)
 |(with_reducible refine FK_at ?_); refine eK Tryz.results78 ?_
 |exact oM
 |fail)
 all_goals first | (exfalso; omega) | kernel_rfl
theorem msig1y_fn (p : Prob) (rs : List Int) (c : CtlD) (a : List ActD) (tk rd rp vr tb : Int) (pa : Bool) (h : CtlK p c) (hv : PlanV p c.plan) (hs : setErr p rs = 0) (hl : c.plan.length ≤ 1000000) (hrd : -1000000000 ≤ c.round ∧ c.round ≤ 1000000000) (hla : a.length ≤ 800) (ht : ¬ tk ≤ c.token) : FnSound Tryz.prog 78 [.io 140 (machC p rs c (1000, 0)), .val true [.d (.v (.int .i64 1)), .d (.v (.int .i64 tk)), .d (.v (.int .i64 rd)), .d (.v (.int .i64 rp)), .d (.v (.int .i64 vr)), .d (.v (.bool pa)), .d (.v (.int .i64 tb))]] (actB a) (mRes p rs (tickP p rs ⟨c.plan, c.at_, c.phase, c.replica, c.round, tk, c.mix⟩).1 (a ++ (tickP p rs ⟨c.plan, c.at_, c.phase, c.replica, c.round, tk, c.mix⟩).2)) := by
 have htk := mtick_fn p rs ⟨c.plan, c.at_, c.phase, c.replica, c.round, tk, c.mix⟩ a (h.token tk) hv hs hl hrd hla
 clear h hv hs
 refine startK (tm := [(0, _), (1, _)]) (mBo p rs c a) Tryz.func78 rfl Tryz.ntmps78 rfl rfl rfl rfl ?_
 repeat' (first
 |(with_reducible refine K_ca 117 ?_); refine zT (htk) ?_
 |refine wA ?_
 |(refine wC ?_ ?_ <;> intro hc)
 |refine wB ?_ ?_
 |(with_reducible refine JL.block ?_)
 |(with_reducible refine FK_at ?_); refine eK Tryz.results78 ?_
 |exact oM
 |fail)
 all_goals first | (exfalso; omega) | kernel_rfl
theorem msig0_fn (p : Prob) (rs : List Int) (c : CtlD) (a : List ActD) (k tk rd rp vr tb : Int) (pa : Bool) (hk : ¬ k = 1) (h0 : c.token = 0) : FnSound Tryz.prog 78 [.io 140 (machC p rs c (1000, 0)), .val true [.d (.v (.int .i64 k)), .d (.v (.int .i64 tk)), .d (.v (.int .i64 rd)), .d (.v (.int .i64 rp)), .d (.v (.int .i64 vr)), .d (.v (.bool pa)), .d (.v (.int .i64 tb))]] (actB a) (mRes p rs c a) := by
 refine startK (tm := [(0, _), (1, _)]) (mBo p rs c a) Tryz.func78 rfl Tryz.ntmps78 rfl rfl rfl rfl ?_
 repeat' (first
 |refine wA ?_
 |(refine wC ?_ ?_ <;> intro hc)
 |refine wB ?_ ?_
 |(with_reducible refine JL.block ?_)
 |(with_reducible refine FK_at ?_); refine eK Tryz.results78 ?_
 |exact oM
 |fail)
 all_goals first | (exfalso; omega) | kernel_rfl
theorem msig2_fn (p : Prob) (rs : List Int) (c : CtlD) (a : List ActD) (tk rd rp vr tb : Int) (pa : Bool) (h0 : ¬ c.token = 0) : FnSound Tryz.prog 78 [.io 140 (machC p rs c (1000, 0)), .val true [.d (.v (.int .i64 2)), .d (.v (.int .i64 tk)), .d (.v (.int .i64 rd)), .d (.v (.int .i64 rp)), .d (.v (.int .i64 vr)), .d (.v (.bool pa)), .d (.v (.int .i64 tb))]] (actB a) (mRes p rs ⟨c.plan, c.at_, c.phase, c.replica, c.round, 0, c.mix⟩ a) := by
 refine startK (tm := [(0, _), (1, _)]) (mBo p rs c a) Tryz.func78 rfl Tryz.ntmps78 rfl rfl rfl rfl ?_
 repeat' (first
 |refine wA ?_
 |(refine wC ?_ ?_ <;> intro hc)
 |refine wB ?_ ?_
 |(with_reducible refine JL.block ?_)
 |(with_reducible refine FK_at ?_); refine eK Tryz.results78 ?_
 |exact oM
 |fail)
 all_goals first | (exfalso; omega) | kernel_rfl
theorem msig3_fn (p : Prob) (rs : List Int) (c : CtlD) (a : List ActD) (tk rd rp vr tb : Int) (pa : Bool) (h : CtlK p c) (hv : PlanV p c.plan) (hs : setErr p rs = 0) (hl : c.plan.length ≤ 1000000) (hrd : -1000000000 ≤ c.round ∧ c.round ≤ 1000000000) (hla : a.length ≤ 800) (h0 : ¬ c.token = 0) : FnSound Tryz.prog 78 [.io 140 (machC p rs c (1000, 0)), .val true [.d (.v (.int .i64 3)), .d (.v (.int .i64 tk)), .d (.v (.int .i64 rd)), .d (.v (.int .i64 rp)), .d (.v (.int .i64 vr)), .d (.v (.bool pa)), .d (.v (.int .i64 tb))]] (actB a) (mRes p rs (tickP p rs c).1 (a ++ (tickP p rs c).2)) := by
 have htk := mtick_fn p rs c a h hv hs hl hrd hla
 clear h hv hs
 refine startK (tm := [(0, _), (1, _)]) (mBo p rs c a) Tryz.func78 rfl Tryz.ntmps78 rfl rfl rfl rfl ?_
 repeat' (first
 |(with_reducible refine K_ca 117 ?_); refine zT (htk) ?_
 |refine wA ?_
 |(refine wC ?_ ?_ <;> intro hc)
 |refine wB ?_ ?_
 |(with_reducible refine JL.block ?_)
 |(with_reducible refine FK_at ?_); refine eK Tryz.results78 ?_
 |exact oM
 |fail)
 all_goals first | (exfalso; omega) | kernel_rfl
theorem msig4n_fn (p : Prob) (rs : List Int) (c : CtlD) (a : List ActD) (tk rd rp vr tb : Int) (pa : Bool) (h : CtlK p c) (hl : c.plan.length ≤ 1000000) (hla : a.length ≤ 800) (h0 : ¬ c.token = 0) (hn : ¬ (c.phase = 1 ∨ c.phase = 3) ∨ ¬ (c.round = rd ∧ c.replica = rp ∧ wantedP c = vr)) : FnSound Tryz.prog 78 [.io 140 (machC p rs c (1000, 0)), .val true [.d (.v (.int .i64 4)), .d (.v (.int .i64 tk)), .d (.v (.int .i64 rd)), .d (.v (.int .i64 rp)), .d (.v (.int .i64 vr)), .d (.v (.bool pa)), .d (.v (.int .i64 tb))]] (actB a) (mRes p rs c a) := by
 have hak := mack0_fn p rs c a 4 tk rd rp vr tb pa h hl (by omega) hn
 clear h hn
 refine startK (tm := [(0, _), (1, _)]) (mBo p rs c a) Tryz.func78 rfl Tryz.ntmps78 rfl rfl rfl rfl ?_
 repeat' (first
 |(with_reducible refine K_ca 118 ?_); refine zT (hak) ?_
 |refine wA ?_
 |(refine wC ?_ ?_ <;> intro hc)
 |refine wB ?_ ?_
 |(with_reducible refine JL.block ?_)
 |(with_reducible refine FK_at ?_); refine eK Tryz.results78 ?_
 |exact oM
 |fail)
 all_goals first | (exfalso; omega) | kernel_rfl
theorem msig4y_fn (p : Prob) (rs : List Int) (c : CtlD) (a : List ActD) (tk rd rp vr tb : Int) (pa : Bool) (h : CtlK p c) (hv : PlanV p c.plan) (hr : CtlR p rs c) (hs : setErr p rs = 0) (hl : c.plan.length ≤ 1000000) (hrd : -1000000000 ≤ c.round ∧ c.round ≤ 1000000000) (hla : a.length ≤ 800) (hrp : -1000000000 ≤ c.replica ∧ c.replica ≤ 1000000000) (h0 : ¬ c.token = 0) (hp : c.phase = 1 ∨ c.phase = 3) (he : c.round = rd ∧ c.replica = rp ∧ wantedP c = vr) : FnSound Tryz.prog 78 [.io 140 (machC p rs c (1000, 0)), .val true [.d (.v (.int .i64 4)), .d (.v (.int .i64 tk)), .d (.v (.int .i64 rd)), .d (.v (.int .i64 rp)), .d (.v (.int .i64 vr)), .d (.v (.bool pa)), .d (.v (.int .i64 tb))]] (actB a) (mRes p rs (ackP p rs c ⟨4, tk, rd, rp, vr, pa, tb⟩).1 (a ++ (ackP p rs c ⟨4, tk, rd, rp, vr, pa, tb⟩).2)) := by
 have hak := mack1_fn p rs c a 4 tk rd rp vr tb pa h hv hr hs hl hrd hla hrp hp he
 clear h hv hr hs hp he
 refine startK (tm := [(0, _), (1, _)]) (mBo p rs c a) Tryz.func78 rfl Tryz.ntmps78 rfl rfl rfl rfl ?_
 repeat' (first
 |(with_reducible refine K_ca 118 ?_); refine zT (hak) ?_
 |refine wA ?_
 |(refine wC ?_ ?_ <;> intro hc)
 |refine wB ?_ ?_
 |(with_reducible refine JL.block ?_)
 |(with_reducible refine FK_at ?_); refine eK Tryz.results78 ?_
 |exact oM
 |fail)
 all_goals first | (exfalso; omega) | kernel_rfl
theorem msig5n_fn (p : Prob) (rs : List Int) (c : CtlD) (a : List ActD) (tk rd rp vr tb : Int) (pa : Bool) (h0 : ¬ c.token = 0) (hn : ¬ c.phase = 2 ∨ ¬ rd = c.round) : FnSound Tryz.prog 78 [.io 140 (machC p rs c (1000, 0)), .val true [.d (.v (.int .i64 5)), .d (.v (.int .i64 tk)), .d (.v (.int .i64 rd)), .d (.v (.int .i64 rp)), .d (.v (.int .i64 vr)), .d (.v (.bool pa)), .d (.v (.int .i64 tb))]] (actB a) (mRes p rs c a) := by
 have hga := mgate0_fn p rs c a 5 tk rd rp vr tb pa hn
 clear hn
 refine startK (tm := [(0, _), (1, _)]) (mBo p rs c a) Tryz.func78 rfl Tryz.ntmps78 rfl rfl rfl rfl ?_
 repeat' (first
 |(with_reducible refine K_ca 119 ?_); refine zT (hga) ?_
 |refine wA ?_
 |(refine wC ?_ ?_ <;> intro hc)
 |refine wB ?_ ?_
 |(with_reducible refine JL.block ?_)
 |(with_reducible refine FK_at ?_); refine eK Tryz.results78 ?_
 |exact oM
 |fail)
 all_goals first | (exfalso; omega) | kernel_rfl
theorem msig5y_fn (p : Prob) (rs : List Int) (c : CtlD) (a : List ActD) (tk rd rp vr tb : Int) (pa : Bool) (h : CtlK p c) (hv : PlanV p c.plan) (hs : setErr p rs = 0) (hl : c.plan.length ≤ 1000000) (hrd : -1000000000 ≤ c.round ∧ c.round ≤ 1000000000) (hla : a.length ≤ 800) (h0 : ¬ c.token = 0) (hp : c.phase = 2) (he : rd = c.round) : FnSound Tryz.prog 78 [.io 140 (machC p rs c (1000, 0)), .val true [.d (.v (.int .i64 5)), .d (.v (.int .i64 tk)), .d (.v (.int .i64 rd)), .d (.v (.int .i64 rp)), .d (.v (.int .i64 vr)), .d (.v (.bool true)), .d (.v (.int .i64 tb))]] (actB a) (mRes p rs (doneC p c) (a ++ [entA c 2])) := by
 have hga := mgate1_fn p rs c a 5 tk rd rp vr tb h hv hs hl hrd hla hp he
 clear h hv hs
 refine startK (tm := [(0, _), (1, _)]) (mBo p rs c a) Tryz.func78 rfl Tryz.ntmps78 rfl rfl rfl rfl ?_
 repeat' (first
 |(with_reducible refine K_ca 119 ?_); refine zT (hga) ?_
 |refine wA ?_
 |(refine wC ?_ ?_ <;> intro hc)
 |refine wB ?_ ?_
 |(with_reducible refine JL.block ?_)
 |(with_reducible refine FK_at ?_); refine eK Tryz.results78 ?_
 |exact oM
 |fail)
 all_goals first | (exfalso; omega) | kernel_rfl
theorem msig5f_fn (p : Prob) (rs : List Int) (c : CtlD) (a : List ActD) (tk rd rp vr tb : Int) (pa : Bool) (h : CtlK p c) (hv : PlanV p c.plan) (hs : setErr p rs = 0) (hl : c.plan.length ≤ 1000000) (hrd : -1000000000 ≤ c.round ∧ c.round ≤ 1000000000) (hla : a.length ≤ 800) (h0 : ¬ c.token = 0) (hp : c.phase = 2) (he : rd = c.round) : FnSound Tryz.prog 78 [.io 140 (machC p rs c (1000, 0)), .val true [.d (.v (.int .i64 5)), .d (.v (.int .i64 tk)), .d (.v (.int .i64 rd)), .d (.v (.int .i64 rp)), .d (.v (.int .i64 vr)), .d (.v (.bool false)), .d (.v (.int .i64 tb))]] (actB a) (mRes p rs ⟨c.plan, c.at_, 3, c.replica, c.round + 1, c.token, c.mix⟩ (a ++ entA c 3 :: repeatP ⟨c.plan, c.at_, 3, c.replica, c.round + 1, c.token, c.mix⟩)) := by
 have hga := mgate2_fn p rs c a 5 tk rd rp vr tb h hv hs hl hrd hla hp he
 clear h hv hs
 refine startK (tm := [(0, _), (1, _)]) (mBo p rs c a) Tryz.func78 rfl Tryz.ntmps78 rfl rfl rfl rfl ?_
 repeat' (first
 |(with_reducible refine K_ca 119 ?_); refine zT (hga) ?_
 |refine wA ?_
 |(refine wC ?_ ?_ <;> intro hc)
 |refine wB ?_ ?_
 |(with_reducible refine JL.block ?_)
 |(with_reducible refine FK_at ?_); refine eK Tryz.results78 ?_
 |exact oM
 |fail)
 all_goals first | (exfalso; omega) | kernel_rfl
theorem msig6n_fn (p : Prob) (rs : List Int) (c : CtlD) (a : List ActD) (tk rd rp vr tb : Int) (pa : Bool) (h : CtlK p c) (hl : c.plan.length ≤ 1000000) (h0 : ¬ c.token = 0) (hn : ¬ (rd = c.round ∧ c.phase = 4 ∧ tb = (present c).idx)) : FnSound Tryz.prog 78 [.io 140 (machC p rs c (1000, 0)), .val true [.d (.v (.int .i64 6)), .d (.v (.int .i64 tk)), .d (.v (.int .i64 rd)), .d (.v (.int .i64 rp)), .d (.v (.int .i64 vr)), .d (.v (.bool pa)), .d (.v (.int .i64 tb))]] (actB a) (mRes p rs c a) := by
 have hpr := fun b : c.phase = 4 => mpresent_fn p rs c a ⟨h.rng.1, h.lt (by omega)⟩ hl (present c) rfl
 clear h
 refine startK (tm := [(0, _), (1, _)]) (mBo p rs c a) Tryz.func78 rfl Tryz.ntmps78 rfl rfl rfl rfl ?_
 repeat' (first
 |(with_reducible refine rgL (fun g => g == 120) ?_ ?_); exact rfl
 |(with_reducible refine K_ca 120 ?_); refine zC (hpr (by omega)) ?_
 |refine wA ?_
 |(refine wC ?_ ?_ <;> intro hc)
 |refine wB ?_ ?_
 |(with_reducible refine JL.block ?_)
 |(with_reducible refine FK_at ?_); refine eK Tryz.results78 ?_
 |exact oM
 |fail)
 all_goals first | (exfalso; omega) | kernel_rfl
theorem msig6y_fn (p : Prob) (rs : List Int) (c : CtlD) (a : List ActD) (tk rd rp vr tb : Int) (pa : Bool) (h : CtlK p c) (hv : PlanV p c.plan) (hs : setErr p rs = 0) (hl : c.plan.length ≤ 1000000) (hrd : -1000000000 ≤ c.round ∧ c.round ≤ 1000000000) (hla : a.length ≤ 800) (h0 : ¬ c.token = 0) (he : rd = c.round ∧ c.phase = 4 ∧ tb = (present c).idx) : FnSound Tryz.prog 78 [.io 140 (machC p rs c (1000, 0)), .val true [.d (.v (.int .i64 6)), .d (.v (.int .i64 tk)), .d (.v (.int .i64 rd)), .d (.v (.int .i64 rp)), .d (.v (.int .i64 vr)), .d (.v (.bool pa)), .d (.v (.int .i64 tb))]] (actB a) (mRes p rs (doneC p c) (a ++ [entA c 2])) := by
 have hpr := mpresent_fn p rs c a ⟨h.rng.1, h.lt (by omega)⟩ hl (present c) rfl
 have hdn := mdone_fn p rs c a h hv hs hl hrd (by omega) (.inr (.inr he.2.1))
 clear h hv hs
 refine startK (tm := [(0, _), (1, _)]) (mBo p rs c a) Tryz.func78 rfl Tryz.ntmps78 rfl rfl rfl rfl ?_
 repeat' (first
 |(with_reducible refine rgL (fun g => g == 120) ?_ ?_); exact rfl
 |(with_reducible refine K_ca 120 ?_); refine zC (hpr) ?_
 |(with_reducible refine K_ca 121 ?_); refine zT (hdn) ?_
 |refine wA ?_
 |(refine wC ?_ ?_ <;> intro hc)
 |refine wB ?_ ?_
 |(with_reducible refine JL.block ?_)
 |(with_reducible refine FK_at ?_); refine eK Tryz.results78 ?_
 |exact oM
 |fail)
 all_goals first | (exfalso; omega) | kernel_rfl
theorem msig7n_fn (p : Prob) (rs : List Int) (c : CtlD) (a : List ActD) (tk rd rp vr tb : Int) (pa : Bool) (h0 : ¬ c.token = 0) (hn : ¬ c.phase = 5) : FnSound Tryz.prog 78 [.io 140 (machC p rs c (1000, 0)), .val true [.d (.v (.int .i64 7)), .d (.v (.int .i64 tk)), .d (.v (.int .i64 rd)), .d (.v (.int .i64 rp)), .d (.v (.int .i64 vr)), .d (.v (.bool pa)), .d (.v (.int .i64 tb))]] (actB a) (mRes p rs c a) := by
 refine startK (tm := [(0, _), (1, _)]) (mBo p rs c a) Tryz.func78 rfl Tryz.ntmps78 rfl rfl rfl rfl ?_
 repeat' (first
 |refine wA ?_
 |(refine wC ?_ ?_ <;> intro hc)
 |refine wB ?_ ?_
 |(with_reducible refine JL.block ?_)
 |(with_reducible refine FK_at ?_); refine eK Tryz.results78 ?_
 |exact oM
 |fail)
 all_goals first | (exfalso; omega) | kernel_rfl
theorem msig7y_fn (p : Prob) (rs : List Int) (c : CtlD) (a : List ActD) (tk rd rp vr tb : Int) (pa : Bool) (hrd : -1000000000 ≤ c.round ∧ c.round ≤ 1000000000) (hla : a.length ≤ 800) (h0 : ¬ c.token = 0) (hp : c.phase = 5) : FnSound Tryz.prog 78 [.io 140 (machC p rs c (1000, 0)), .val true [.d (.v (.int .i64 7)), .d (.v (.int .i64 tk)), .d (.v (.int .i64 rd)), .d (.v (.int .i64 rp)), .d (.v (.int .i64 vr)), .d (.v (.bool pa)), .d (.v (.int .i64 tb))]] (actB a) (mRes p rs ⟨c.plan, c.at_, 0, c.replica, c.round + 1, c.token, c.mix⟩ (a ++ [entA c 4])) := by
 refine startK (tm := [(0, _), (1, _)]) (mBo p rs c a) Tryz.func78 rfl Tryz.ntmps78 rfl rfl rfl rfl ?_
 repeat' (first
 |(with_reducible refine K_ca 122 ?_); refine zT (mwrite_fn p rs c a 4 hrd (by omega)) ?_
 |refine wA ?_
 |(refine wC ?_ ?_ <;> intro hc)
 |refine wB ?_ ?_
 |(with_reducible refine JL.block ?_)
 |(with_reducible refine FK_at ?_); refine eK Tryz.results78 ?_
 |exact oM
 |fail)
 all_goals first | (exfalso; omega) | kernel_rfl
theorem msigX_fn (p : Prob) (rs : List Int) (c : CtlD) (a : List ActD) (k tk rd rp vr tb : Int) (pa : Bool) (hk : ¬ k = 1 ∧ ¬ k = 2 ∧ ¬ k = 3 ∧ ¬ k = 4 ∧ ¬ k = 5 ∧ ¬ k = 6 ∧ ¬ k = 7) (h0 : ¬ c.token = 0) : FnSound Tryz.prog 78 [.io 140 (machC p rs c (1000, 0)), .val true [.d (.v (.int .i64 k)), .d (.v (.int .i64 tk)), .d (.v (.int .i64 rd)), .d (.v (.int .i64 rp)), .d (.v (.int .i64 vr)), .d (.v (.bool pa)), .d (.v (.int .i64 tb))]] (actB a) (mRes p rs c a) := by
 refine startK (tm := [(0, _), (1, _)]) (mBo p rs c a) Tryz.func78 rfl Tryz.ntmps78 rfl rfl rfl rfl ?_
 repeat' (first
 |refine wA ?_
 |(refine wC ?_ ?_ <;> intro hc)
 |refine wB ?_ ?_
 |(with_reducible refine JL.block ?_)
 |(with_reducible refine FK_at ?_); refine eK Tryz.results78 ?_
 |exact oM
 |fail)
 all_goals first | (exfalso; omega) | kernel_rfl
theorem msignal_fn (p : Prob) (rs : List Int) (c : CtlD) (a : List ActD) (s : SigD) (h : CtlK p c) (hv : PlanV p c.plan) (hr : CtlR p rs c) (hs : setErr p rs = 0) (hl : c.plan.length ≤ 1000000) (hrd : -1000000000 ≤ c.round ∧ c.round ≤ 1000000000) (hla : a.length ≤ 800) (hrp : -1000000000 ≤ c.replica ∧ c.replica ≤ 1000000000) : FnSound Tryz.prog 78 [.io 140 (machC p rs c (1000, 0)), .val true (sigC s)] (actB a) (mRes p rs (nextP p rs c s).1 (a ++ (nextP p rs c s).2)) := by
 obtain ⟨k, tk, rd, rp, vr, pa, tb⟩ := s
 have wr : w64 (c.round + 1) = c.round + 1 := w64_is (by omega)
 have same : ∀ {R : ARes}, FnSound Tryz.prog 78 [.io 140 (machC p rs c (1000, 0)), .val true (sigC ⟨k, tk, rd, rp, vr, pa, tb⟩)] (actB a) (mRes p rs c a) → nextP p rs c ⟨k, tk, rd, rp, vr, pa, tb⟩ = (c, []) → FnSound Tryz.prog 78 [.io 140 (machC p rs c (1000, 0)), .val true (sigC ⟨k, tk, rd, rp, vr, pa, tb⟩)] (actB a) (mRes p rs (nextP p rs c ⟨k, tk, rd, rp, vr, pa, tb⟩).1 (a ++ (nextP p rs c ⟨k, tk, rd, rp, vr, pa, tb⟩).2)) := by
  intro _ h e
  rw [e, List.append_nil]; exact h
 by_cases k1 : k = 1
 ·subst k1
  by_cases ht : tk ≤ c.token
  ·exact same (R := mRes p rs c a) (msig1n_fn p rs c a tk rd rp vr tb pa ht) (by unfold nextP; rw [if_pos rfl, if_pos ht])
  ·have e : nextP p rs c ⟨1, tk, rd, rp, vr, pa, tb⟩ = tickP p rs ⟨c.plan, c.at_, c.phase, c.replica, c.round, tk, c.mix⟩ := by unfold nextP; rw [if_pos rfl, if_neg ht]
   rw [e]
   exact msig1y_fn p rs c a tk rd rp vr tb pa h hv hs hl hrd hla ht
 by_cases h0 : c.token = 0
 ·exact same (R := mRes p rs c a) (msig0_fn p rs c a k tk rd rp vr tb pa k1 h0) (by unfold nextP; rw [if_neg k1, if_pos h0])
 by_cases k2 : k = 2
 ·subst k2
  have e : nextP p rs c ⟨2, tk, rd, rp, vr, pa, tb⟩ = (⟨c.plan, c.at_, c.phase, c.replica, c.round, 0, c.mix⟩, []) := by unfold nextP; rw [if_neg k1, if_neg h0, if_pos rfl]
  rw [e, List.append_nil]
  exact msig2_fn p rs c a tk rd rp vr tb pa h0
 by_cases k3 : k = 3
 ·subst k3
  have e : nextP p rs c ⟨3, tk, rd, rp, vr, pa, tb⟩ = tickP p rs c := by unfold nextP; rw [if_neg k1, if_neg h0, if_neg k2, if_pos rfl]
  rw [e]
  exact msig3_fn p rs c a tk rd rp vr tb pa h hv hs hl hrd hla h0
 have e0 : nextP p rs c ⟨k, tk, rd, rp, vr, pa, tb⟩ = if k = 4 ∧ rd = c.round ∧ (c.phase = 1 ∨ c.phase = 3) then ackP p rs c ⟨k, tk, rd, rp, vr, pa, tb⟩
     else if k = 5 ∧ rd = c.round ∧ c.phase = 2 then (if pa = true then (doneC p c, [entA c 2]) else ({ bump c with phase := 3 }, entA c 3 :: repeatP { bump c with phase := 3 }))
     else if k = 6 ∧ rd = c.round ∧ c.phase = 4 ∧ tb = (present c).idx then (doneC p c, [entA c 2])
     else if k = 7 ∧ c.phase = 5 then ({ bump c with phase := 0 }, [entA c 4])
     else (c, []) := by unfold nextP; rw [if_neg k1, if_neg h0, if_neg k2, if_neg k3]
 by_cases k4 : k = 4
 ·subst k4
  by_cases hp : c.phase = 1 ∨ c.phase = 3
  ·by_cases he : c.round = rd ∧ c.replica = rp ∧ wantedP c = vr
   ·rw [e0, if_pos ⟨rfl, he.1.symm, hp⟩]
    exact msig4y_fn p rs c a tk rd rp vr tb pa h hv hr hs hl hrd hla hrp h0 hp he
   ·refine same (R := mRes p rs c a) (msig4n_fn p rs c a tk rd rp vr tb pa h hl hla h0 (.inr he)) ?_
    rw [e0]
    by_cases hd : rd = c.round
    ·rw [if_pos ⟨rfl, hd, hp⟩]
     unfold ackP
     rw [if_pos (by show ¬ rp = c.replica ∨ ¬ vr = wantedP c; omega)]
    ·rw [if_neg (fun b => hd b.2.1), if_neg (by omega), if_neg (by omega), if_neg (by omega)]
  ·refine same (R := mRes p rs c a) (msig4n_fn p rs c a tk rd rp vr tb pa h hl hla h0 (.inl hp)) ?_
   rw [e0, if_neg (fun b => hp b.2.2), if_neg (by omega), if_neg (by omega), if_neg (by omega)]
 rw [if_neg (fun b => k4 b.1)] at e0
 by_cases k5 : k = 5
 ·subst k5
  by_cases hp : c.phase = 2 ∧ rd = c.round
  ·rw [if_pos ⟨rfl, hp.2, hp.1⟩] at e0
   cases pa with
   | true =>
    rw [if_pos rfl] at e0
    rw [e0]
    exact msig5y_fn p rs c a tk rd rp vr tb true h hv hs hl hrd hla h0 hp.1 hp.2
   | false =>
    rw [if_neg (by decide)] at e0
    have eb : ({ bump c with phase := 3 } : CtlD) = ⟨c.plan, c.at_, 3, c.replica, c.round + 1, c.token, c.mix⟩ := by unfold bump; rw [wr]
    rw [e0, eb]
    exact msig5f_fn p rs c a tk rd rp vr tb false h hv hs hl hrd hla h0 hp.1 hp.2
  ·refine same (R := mRes p rs c a) (msig5n_fn p rs c a tk rd rp vr tb pa h0 (by omega)) ?_
   rw [e0, if_neg (by omega), if_neg (by omega), if_neg (by omega)]
 rw [if_neg (fun b => k5 b.1)] at e0
 by_cases k6 : k = 6
 ·subst k6
  by_cases he : rd = c.round ∧ c.phase = 4 ∧ tb = (present c).idx
  ·rw [e0, if_pos ⟨rfl, he⟩]
   exact msig6y_fn p rs c a tk rd rp vr tb pa h hv hs hl hrd hla h0 he
  ·refine same (R := mRes p rs c a) (msig6n_fn p rs c a tk rd rp vr tb pa h hl h0 he) ?_
   rw [e0, if_neg (fun b => he b.2), if_neg (by omega)]
 rw [if_neg (fun b => k6 b.1)] at e0
 by_cases k7 : k = 7
 ·subst k7
  by_cases hp : c.phase = 5
  ·rw [if_pos ⟨rfl, hp⟩] at e0
   have eb : ({ bump c with phase := 0 } : CtlD) = ⟨c.plan, c.at_, 0, c.replica, c.round + 1, c.token, c.mix⟩ := by unfold bump; rw [wr]
   rw [e0, eb]
   exact msig7y_fn p rs c a tk rd rp vr tb pa hrd hla h0 hp
  ·refine same (R := mRes p rs c a) (msig7n_fn p rs c a tk rd rp vr tb pa h0 hp) ?_
   rw [e0, if_neg (fun b => hp b.2)]
 rw [if_neg (fun b => k7 b.1)] at e0
 exact same (R := mRes p rs c a) (msigX_fn p rs c a k tk rd rp vr tb pa ⟨k1, k2, k3, k4, k5, k6, k7⟩ h0) e0
end Go.Proofs.YtbdjcgjdmhgnmaaGreat

