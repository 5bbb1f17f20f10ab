/- Rules of runs and contracts of functions, for the claims of one seat. -/
import Derived.Test.YtdpeoolildjohaaGreatDoorQA13
import Derived.Test.YtdpeoolildjohaaGreatDoorQA14
import Derived.Test.YtdpeoolildjohaaGreatDoorQA15
import Derived.Test.YtdpeoolildjohaaGreatDoorQA22
import Derived.Test.YtdpeoolildjohaaGreatDoorQA23
namespace Go.Proofs.YtdpeoolildjohaaGreatDoor
open Go Go.RowKit
set_option linter.unusedSimpArgs false
set_option linter.unusedVariables false
theorem check_goal {p : Prob} : ∀ {l : List StepD} {m : MixD} {i : Int}, (failL p m l i).2.2.2 = 15 → goalP p ((tr p m l).getD l.length nilM) = true
 | [], m, i, h => by
  unfold failL at h
  split at h
  ·rename_i hg; exact hg
  ·cases h
 | s :: r, m, i, h => by
  unfold failL at h
  split at h
  ·cases h
  ·split at h
   ·cases h
   ·exact check_goal (l := r) h
structure PlanV (p : Prob) (l : List StepD) : Prop where
 ok : PlanOK p l
 last : mixErr p ((mixesP p l).getD l.length nilM) = 0
theorem planV_of {p : Prob} {l : List StepD} (hv : vpErr p = 0) (h : checkP p l = true) : PlanV p l := by
 have hp := planOK_of hv (start_err hv) h
 refine ⟨hp, ?_⟩
 have h := of_decide_eq_true h
 unfold failP at h
 rw [if_neg (by simpa using hv)] at h
 split at h
 ·cases h
 ·have hg := check_goal h
  rw [hp.mix]
  unfold goalP at hg
  rw [Bool.and_eq_true] at hg
  exact of_decide_eq_true hg.1
theorem PlanV.valid {p : Prob} {l : List StepD} (h : PlanV p l) {k : Nat} (hk : k ≤ l.length) : mixErr p ((mixesP p l).getD k nilM) = 0 := by
 by_cases e : k = l.length
 ·rw [e]; exact h.last
 ·exact h.ok.valid (by omega)
theorem getDi_set' {l : List Int} {k j : Nat} {x : Int} : (l.set k x).getD j 0 = if k = j ∧ k < l.length then x else l.getD j 0 := by
 by_cases e : k = j
 ·subst e
  by_cases h : k < l.length
  ·rw [if_pos ⟨rfl, h⟩, List.getD_eq_getElem?_getD, List.getElem?_set_self h]; rfl
  ·rw [if_neg (fun a => h a.2), List.getD_eq_getElem?_getD, List.getD_eq_getElem?_getD, List.getElem?_eq_none (by simp; omega), List.getElem?_eq_none (by omega)]
 ·rw [if_neg (fun a => e a.1), List.getD_eq_getElem?_getD, List.getElem?_set_ne e, ← List.getD_eq_getElem?_getD]
theorem abort_valid {p : Prob} {m : MixD} {i : Nat} (h : mixErr p m = 0) (hu : u8s m.held) (hi : i < p.vs.length) : mixErr p ⟨m.base, m.next.set i (-1), m.held⟩ = 0 := by
 have hm := mixIn_of h
 have hln := hm.ln
 have hsv : ∀ j, j < p.vs.length → svcI p.vs m.base m.next j = 0 := by
  intro j hj
  unfold mixErr at h
  rw [if_neg (by simpa using hm.vp), if_neg (by have := hm.lb; have := hm.ln; have := hm.lh; omega)] at h
  split at h
  ·rename_i h1; exact absurd h h1
  ·rename_i h1
   have := firstErr_zero.1 (Classical.not_not.1 h1) j hj
   rwa [Nat.zero_add] at this
 have hhb : ∀ j, j < p.tabs.length → heldB p m (p.tabs.getD j nilT) (m.held.getD j 0) = false := by
  intro j hj
  unfold mixErr at h
  rw [if_neg (by simpa using hm.vp), if_neg (by have := hm.lb; have := hm.ln; have := hm.lh; omega)] at h
  split at h
  ·rename_i h1; exact absurd h h1
  ·have := firstErr_zero.1 h j hj
   rw [Nat.zero_add] at this
   unfold heldI at this
   split at this
   ·cases this
   ·rename_i h2; simpa using h2
 refine mixErr_ok hm.vp hm.lb (by simp; exact hm.ln) hm.lh (fun j hj => ?_) (fun j hj => ?_)
 ·have h1 := hsv j hj
  have hr := hm.rng j hj
  unfold svcI at h1 ⊢
  show svcE (p.vs.getD j 0) (m.base.getD j 0) ((m.next.set i (-1)).getD j 0) = 0
  rw [getDi_set']
  split
  ·unfold svcE
   rw [if_neg (by omega), if_neg (by omega)]
  ·exact h1
 ·have h1 := hhb j hj
  have ht := tab_at hm.vp hj
  have hr := u8_get hu j
  show heldB p ⟨m.base, m.next.set i (-1), m.held⟩ (p.tabs.getD j nilT) (m.held.getD j 0) = false
  unfold heldB at h1 ⊢
  by_cases hs : storedB (p.tabs.getD j nilT).kind = true
  ·rw [if_pos hs] at h1 ⊢
   rw [Bool.or_eq_false_iff, decide_eq_false_iff_not, decide_eq_false_iff_not, Classical.not_not, Classical.not_not] at h1 ⊢
   refine ⟨h1.1, ?_⟩
   by_cases e : i = (p.tabs.getD j nilT).frm.toNat
   ·have hrs : runS ⟨m.base, m.next.set i (-1), m.held⟩ (p.tabs.getD j nilT).frm = one8 (m.base.getD (p.tabs.getD j nilT).frm.toNat 0) := by
      unfold runS runV
      have en : (m.next.set i (-1)).getD (p.tabs.getD j nilT).frm.toNat 0 = -1 := by rw [getDi_set', if_pos ⟨e, by omega⟩]
      show (if 0 ≤ (m.next.set i (-1)).getD (p.tabs.getD j nilT).frm.toNat 0 then bits BinOp.or IntKind.u8 (one8 (m.base.getD (p.tabs.getD j nilT).frm.toNat 0)) (one8 ((m.next.set i (-1)).getD (p.tabs.getD j nilT).frm.toNat 0)) else one8 (m.base.getD (p.tabs.getD j nilT).frm.toNat 0)) = _
      rw [en, if_neg (by decide)]
    rw [hrs]
    refine sub_of (one8_rng _) hr fun u hu8 hb => ?_
    refine sub_has (runS_rng _ _) hr h1.2 ?_
    unfold runS runV
    split
    ·rw [hasV_or (one8_rng _) (one8_rng _), hb]; rfl
    ·exact hb
   ·have hrs : runS ⟨m.base, m.next.set i (-1), m.held⟩ (p.tabs.getD j nilT).frm = runS m (p.tabs.getD j nilT).frm := by
      unfold runS runV
      have en : (m.next.set i (-1)).getD (p.tabs.getD j nilT).frm.toNat 0 = m.next.getD (p.tabs.getD j nilT).frm.toNat 0 := by rw [getDi_set', if_neg (fun a => e a.1)]
      show (if 0 ≤ (m.next.set i (-1)).getD (p.tabs.getD j nilT).frm.toNat 0 then bits BinOp.or IntKind.u8 (one8 (m.base.getD (p.tabs.getD j nilT).frm.toNat 0)) (one8 ((m.next.set i (-1)).getD (p.tabs.getD j nilT).frm.toNat 0)) else one8 (m.base.getD (p.tabs.getD j nilT).frm.toNat 0)) = _
      rw [en]
    rw [hrs]; exact h1.2
  ·rw [if_neg hs] at h1 ⊢
   exact h1
theorem CtlK.valid {p : Prob} {c : CtlD} (h : CtlK p c) (hv : PlanV p c.plan) : mixErr p c.mix = 0 := by
 have hr := h.rng
 have hps := h.phs
 have ab : ¬ c.phase = 6 → (present c).kind = 1 → mixErr p (abortedP p c.plan c.at_) = 0 := fun h6 k => by
  have hlt := h.lt h6
  obtain ⟨a1, a2, a3⟩ := h.plan.abort ⟨hr.1, hlt⟩ k
  have hst := (h.plan.step (k := c.at_.toNat) (by omega)).1
  have hsv := hst.svc (by have : (c.plan.getD c.at_.toNat nilS).kind = 1 := k; omega)
  have hvm := hv.valid (k := (c.at_ + 1).toNat) (by omega)
  have hg := h.plan.g (k := (c.at_ + 1).toNat) (by omega)
  rw [after4 (by show ¬ (4 : Int) = 1; decide) (by show ¬ (4 : Int) = 2; decide) (by show ¬ (4 : Int) = 3; decide)] at a3
  split at a3
  ·cases a3
  ·have e := Option.some.inj a3
   rw [← e]
   have := hst.nn
   exact abort_valid hvm hg.u (by show (c.plan.getD c.at_.toNat nilS).idx.toNat < _; omega)
 by_cases h6 : c.phase = 6
 ·rw [h.ph6 h6]; exact hv.valid (by omega)
 ·have hlt := h.lt h6
  have : c.phase = 0 ∨ c.phase = 1 ∨ c.phase = 2 ∨ c.phase = 3 ∨ c.phase = 4 ∨ c.phase = 5 := by omega
  rcases this with e | e | e | e | e | e
  ·rcases h.ph0 e with m | ⟨k, m⟩
   ·rw [m]; exact hv.valid (by omega)
   ·rw [m]; exact ab h6 k
  ·rcases h.ph1 e with ⟨k, m⟩ | ⟨k, m⟩
   ·rw [m]; exact hv.valid (by omega)
   ·rw [m]; exact hv.valid (by omega)
  ·rw [(h.ph2 (.inl e)).2]; exact hv.valid (by omega)
  ·rw [(h.ph2 (.inr e)).2]; exact hv.valid (by omega)
  ·rw [(h.ph4 e).2]; exact hv.valid (by omega)
  ·have := h.ph5 e
   rw [this.2]; exact ab h6 this.1
theorem CtlK.stepOK {p : Prob} {c : CtlD} (h : CtlK p c) (hp : ¬ c.phase = 6) : Go.Proofs.YtdpeoolildjohaaGreatDoor.stepOK (present c) = true ∧ thereB p (present c) = true := by
 have hlt := h.lt hp
 have hr := h.rng
 have := (h.plan.step (k := c.at_.toNat) (by omega)).2.2
 have e : (applyP p ((mixesP p c.plan).getD c.at_.toNat nilM) (c.plan.getD c.at_.toNat nilS)).2 = 0 := by rw [this]
 obtain ⟨_, _, a3, a4⟩ := apply_after e
 exact ⟨a3, a4⟩
theorem abort_ok {p : Prob} {i : Int} (h : 0 ≤ i ∧ i < p.vs.length) : stepOK ⟨4, i, 0⟩ = true ∧ thereB p ⟨4, i, 0⟩ = true := by
 constructor
 ·unfold stepOK
  exact decide_eq_true (by refine ⟨?_, ?_, ?_, ?_, ?_⟩ <;> first | (show (1 : Int) ≤ 4; decide) | (show (4 : Int) ≤ 4; decide) | exact h.1 | (show (0 : Int) ≤ 0; decide) | exact .inr rfl)
 ·unfold thereB
  rw [if_neg (by show ¬ (4 : Int) = 3; decide), decide_eq_true (show (⟨4, i, 0⟩ : StepD).idx < p.vs.length from h.2), decide_eq_true (show ¬ (⟨4, i, 0⟩ : StepD).kind = 1 by show ¬ (4 : Int) = 1; decide)]
  rfl
end Go.Proofs.YtdpeoolildjohaaGreatDoor

namespace Go.Proofs.YtdpeoolildjohaaGreatDoor
open Go Go.RowKit
set_option maxRecDepth 100000
set_option maxHeartbeats 8000000
set_option linter.unusedSimpArgs false
set_option linter.unusedVariables false
theorem failL_k {p : Prob} {m : MixD} {l : List StepD} {k : Nat} {i : Int} (hk : k < l.length) : failL p m (l.drop k) i = if ¬ (applyP p m (l.getD k nilS)).2 = 0 ∨ (l.getD k nilS).kind = 4 then (i, nilM, nilC, 0)
    else if (blameP p (applyP p m (l.getD k nilS)).1).2.2 = 0 then (i, (blameP p (applyP p m (l.getD k nilS)).1).1, (blameP p (applyP p m (l.getD k nilS)).1).2.1, 0)
    else failL p (applyP p m (l.getD k nilS)).1 (l.drop (k + 1)) (i + 1) := by
 rw [dropD_cons (d := nilS) hk]; rfl
theorem failL_e {p : Prob} {m : MixD} {l : List StepD} {k : Nat} {i : Int} (hk : ¬ k < l.length) : failL p m (l.drop k) i = if goalP p m = true then (0, nilM, nilC, 15) else (i, nilM, nilC, 14) := by
 rw [List.drop_eq_nil_of_le (by omega)]; rfl
theorem apply_u {p : Prob} {m : MixD} {s : StepD} (hm : MixG p m) (h : (applyP p m s).2 = 0) : MixG p (applyP p m s).1 := by
 obtain ⟨a1, a2, a3, a4⟩ := apply_after h
 exact after_g hm (stepAt_of a3 a4) a1
theorem pfail_fn (p : Prob) (l : List StepD) (h : vpErr p = 0) (hl : l.length ≤ 1000000) : FnSound Tryz.prog 80 [.val true (probC p), .val false [.d (.sl 3 (dSteps l))]] [] { vals := [(false, [.d (.v (.int .i64 (failP p l).1))]), (true, mixC (failP p l).2.1), (true, confC (failP p l).2.2.1), (false, [.d (.v (.int .i64 (failP p l).2.2.2))])] } := by
 have hg := start_g h
 have fA : (blameP p (startM p)).2.2 = 0 → failP p l = (-1, (blameP p (startM p)).1, (blameP p (startM p)).2.1, 0) := fun a => by unfold failP; rw [if_neg (by simpa using h), if_pos a]
 have fB : ¬ (blameP p (startM p)).2.2 = 0 → failP p l = failL p (startM p) l 0 := fun a => by unfold failP; rw [if_neg (by simpa using h), if_neg a]
 refine startW (tm := [(0, _), (1, _)]) Tryz.func80 rfl Tryz.ntmps80 rfl rfl rfl rfl ?_
 repeat' (first
 |(with_reducible refine K_ca 47 ?_); refine zC (pstart_fn p h) ?_
 |(with_reducible refine K_ca 114 ?_); (first
 |refine zC (pblame_fn p (startM p) hg.u) ?_
 |refine zC (pblame_fn p (applyP p y.2 (l.getD y.1 nilS)).1 (apply_u hy.2.1 (by assumption)).u) ?_)
 |(with_reducible refine K_ca 89 ?_); refine zC (qapply_fn p y.2 (l.getD y.1 nilS) hy.2.1.u) ?_
 |(with_reducible refine K_ca 115 ?_); refine zC (pgoal_fn p y.2 hy.2.1.u) ?_
 |(with_reducible refine blk_at (id := 0) ?_); ((with_reducible refine JL.loopW 0 899 (fun (y : Nat × MixD) tm => (43, .one false [.d (.v (.int .i64 ((y.1 : Int))))]) :: tm) (fun (y : Nat × MixD) bo => ((320, 200), some (.st 37 [.d (.sl 1 ((dInts y.2.base))), .d (.sl 1 ((dInts y.2.next))), .d (.sl 1 ((dSets y.2.held)))])) :: bo) (fun (y : Nat × MixD) => y.1 ≤ l.length ∧ MixG p y.2 ∧ failL p y.2 (l.drop y.1) y.1 = failP p l) (fun (y : Nat × MixD) => l.length - y.1) ((0, startM p)) ?_ (fun y hy => ?_) ?_); (focus (apply SubW [] rfl ?_ ?_ rfl ?_; (repeat' (first | exact kA | refine kB ?_ | refine kC ?_ ?_ | exact kD | fail)))))
 |((with_reducible refine round_next (i := y) ((y.1 + 1, (applyP p y.2 (l.getD y.1 nilS)).1)) ?_ ?_ ?_); (focus (apply SubW [] rfl ?_ ?_ rfl ?_; (repeat' (first | exact kA | refine kB ?_ | refine kC ?_ ?_ | exact kD | fail)))))
 |refine wA ?_
 |(refine wC ?_ ?_ <;> intro hc)
 |refine wB ?_ ?_
 |(with_reducible refine JL.block ?_)
 |(with_reducible refine F_at ?_); refine eW (vs := [(_, _), (_, _), (_, _), (_, _)]) Tryz.results80 ?_; (focus (repeat' (first | exact oA | refine oB ?_ | refine oC ?_ ?_ | fail)))
 |exact oM
 |fail)
 all_goals first
  | (rw [fA hc] <;> rfl)
  | (have d : ¬ (applyP p y.2 (l.getD y.1 nilS)).2 = 0 := hc; have q := hy.2.2; rw [failL_k (by omega), if_pos (Or.inl d)] at q; rw [← q] <;> rfl)
  | (have d : (l.getD y.1 nilS).kind = 4 := hc; have q := hy.2.2; rw [failL_k (by omega), if_pos (Or.inr d)] at q; rw [← q] <;> rfl)
  | (have d1 : (applyP p y.2 (l.getD y.1 nilS)).2 = 0 := by assumption
     have d2 : ¬ (l.getD y.1 nilS).kind = 4 := by assumption
     have d3 : ¬ (¬ (applyP p y.2 (l.getD y.1 nilS)).2 = 0 ∨ (l.getD y.1 nilS).kind = 4) := fun a => a.elim (fun b => b d1) d2
     have q := hy.2.2
     rw [failL_k (by omega), if_neg d3] at q
     first
      | (rw [if_pos hc] at q; rw [← q] <;> rfl)
      | (rw [if_neg hc] at q; exact ⟨by dsimp only; omega, apply_u hy.2.1 d1, q⟩))
  | (have q := hy.2.2; rw [failL_e (by omega), if_pos (by simpa using hc)] at q; rw [← q] <;> rfl)
  | (have q := hy.2.2; rw [failL_e (by omega), if_neg (by simpa using hc)] at q; rw [← q] <;> first | rfl | (show (l.length : Int) = (y.1 : Int); omega))
  | exact ⟨Nat.zero_le _, hg, (fB hc).symm⟩
  | trace_state
theorem pcheck_fn (p : Prob) (l : List StepD) (h : vpErr p = 0) (hl : l.length ≤ 1000000) : FnSound Tryz.prog 46 [.val true (probC p), .val false [.d (.sl 3 (dSteps l))]] [] { vals := [(false, [.d (.v (.bool (checkP p l)))])] } := by
 refine startW (tm := [(0, _), (1, _)]) Tryz.func46 rfl Tryz.ntmps46 rfl rfl rfl rfl ?_
 repeat' (first
 |(with_reducible refine K_ca 80 ?_); refine zC (pfail_fn p l h hl) ?_
 |refine wA ?_
 |(refine wC ?_ ?_ <;> intro hc)
 |refine wB ?_ ?_
 |(with_reducible refine JL.block ?_)
 |(with_reducible refine F_at ?_); refine eW (vs := [(_, _)]) Tryz.results46 ?_; (focus (repeat' (first | exact oA | refine oB ?_ | refine oC ?_ ?_ | fail)))
 |exact oM
 |fail)
 all_goals first | rfl | trace_state
theorem psetx_fn (v : Int) : FnSound Tryz.prog 79 [.val false [.d (.v (.int .i64 v))]] [] { vals := [(false, [.d (.v (.bool (!replOK v)))])] } := by
 refine startW (tm := [(0, _)]) Tryz.func79 rfl Tryz.ntmps79 rfl rfl rfl rfl ?_
 repeat' (first
 |refine wA ?_
 |(refine wC ?_ ?_ <;> intro hc)
 |refine wB ?_ ?_
 |(with_reducible refine JL.block ?_)
 |(with_reducible refine F_at ?_); refine eW (vs := [(_, _)]) Tryz.results79 ?_; (focus (repeat' (first | exact oA | refine oB ?_ | refine oC ?_ ?_ | fail)))
 |exact oM
 |fail)
 all_goals (unfold replOK; first | (rw [decide_eq_false (by omega)]; rfl) | (rw [← decide_not]; congr 1; exact propext (by omega)) | trace_state)
theorem any_rep {rs : List Int} : (rs.any fun v => !replOK v) = !rs.all replOK := by
 induction rs with
 | nil => rfl
 | cons x r ih => rw [List.any_cons, List.all_cons, ih]; cases replOK x <;> simp
theorem psetting_fn (p : Prob) (rs : List Int) (hl : rs.length ≤ 1000000) : FnSound Tryz.prog 45 [.val true (probC p), .val false [.d (.sl 1 (dInts rs))]] [] { vals := [(false, [.d (.v (.int .i64 (setErr p rs)))])] } := by
 refine startW (tm := [(0, _), (1, _)]) Tryz.func45 rfl Tryz.ntmps45 rfl rfl rfl rfl ?_
 repeat' (first
 |(with_reducible refine K_ca 77 ?_); refine zC (vp_fn p) ?_
 |(with_reducible refine K_ca 78 ?_); refine zC (contains_fn 79 (fun v => !replOK v) ⟨by kernel_rfl⟩ psetx_fn rs hl) ?_
 |refine wA ?_
 |(refine wC ?_ ?_ <;> intro hc)
 |refine wB ?_ ?_
 |(with_reducible refine JL.block ?_)
 |(with_reducible refine F_at ?_); refine eW (vs := [(_, _)]) Tryz.results45 ?_; (focus (repeat' (first | exact oA | refine oB ?_ | refine oC ?_ ?_ | fail)))
 |exact oM
 |fail)
 all_goals first
  | exact (setErr_vp hc).symm
  | exact (setErr_ar (by assumption) (by omega)).symm
  | (have d := hc; rw [any_rep] at d; unfold setErr; rw [if_neg (fun a => a (by assumption)), if_neg (by omega)]; (first | (rw [if_pos (by simpa using d)]; done) | (rw [if_neg (by simpa using d)]; done)))
  | trace_state
end Go.Proofs.YtdpeoolildjohaaGreatDoor

namespace Go.Proofs.YtdpeoolildjohaaGreatDoor
open Go Go.RowKit
set_option linter.unusedSimpArgs false
set_option linter.unusedVariables false
theorem CtlK.tick {p : Prob} {rs : List Int} {c : CtlD} (h : CtlK p c) : CtlK p (tickP p rs c).1 := by
 unfold tickP
 by_cases h0 : c.phase = 0
 ·rw [if_neg (fun a => a h0)]; exact h.begin h0
 ·rw [if_pos h0]; exact h
theorem CtlK.probe {p : Prob} {c : CtlD} (h : CtlK p c) (h1 : c.phase = 1) (hk : (present c).kind = 1) : CtlK p { c with phase := 2 } := by
 have hlt := h.lt (by omega)
 refine ctlK_mk h.plan ⟨h.rng.1, hlt⟩ (.inr (.inr (.inl ⟨rfl, hk, ?_⟩)))
 rcases h.ph1 h1 with ⟨_, m⟩ | ⟨k, _⟩
 ·exact m
 ·omega
theorem CtlK.failed {p : Prob} {c : CtlD} (h : CtlK p c) (h3 : c.phase = 3) (r : Int) : CtlK p { c with mix := abortedP p c.plan c.at_, phase := 5, replica := r } := by
 have hlt := h.lt (by omega)
 exact ctlK_mk h.plan ⟨h.rng.1, hlt⟩ (.inr (.inr (.inr (.inr (.inr ⟨rfl, (h.ph2 (.inr h3)).1, rfl⟩)))))
theorem CtlK.gateNo {p : Prob} {c : CtlD} (h : CtlK p c) (h2 : c.phase = 2) : CtlK p { c with phase := 3 } := by
 have hlt := h.lt (by omega)
 have := h.ph2 (.inl h2)
 exact ctlK_mk h.plan ⟨h.rng.1, hlt⟩ (.inr (.inr (.inr (.inl ⟨rfl, this.1, this.2⟩))))
theorem CtlK.again {p : Prob} {c : CtlD} (h : CtlK p c) (h5 : c.phase = 5) : CtlK p { c with phase := 0 } := by
 have hlt := h.lt (by omega)
 have hr := h.rng
 have hk := h.ph5 h5
 exact ⟨h.plan, h.rng, by show (0 : Int) = 6 ↔ c.at_ = c.plan.length; omega, fun _ => .inr ⟨hk.1, hk.2⟩, fun a => absurd (show (0 : Int) = 1 from a) (by decide), fun a => absurd (show (0 : Int) = 2 ∨ (0 : Int) = 3 from a) (by decide), fun a => absurd (show (0 : Int) = 4 from a) (by decide), fun a => absurd (show (0 : Int) = 5 from a) (by decide), fun a => absurd (show (0 : Int) = 6 from a) (by decide), by show (0 : Int) ≤ 0 ∧ (0 : Int) ≤ 6; decide⟩
theorem CtlK.next {p : Prob} {rs : List Int} {c : CtlD} {s : SigD} (h : CtlK p c) (hl : c.plan.length ≤ 1000000) : CtlK p (nextP p rs c s).1 := by
 have hps := h.phs
 unfold nextP
 split
 ·split
  ·exact h
  ·exact (h.token _).tick
 ·split
  ·exact h
  ·split
   ·exact h.token 0
   ·split
    ·exact h.tick
    ·split
     ·rename_i hc
      unfold ackP
      split
      ·exact h
      ·split
       ·rename_i h3; exact h.failed h3 0
       ·rename_i h3
        have h1 : c.phase = 1 := by omega
        split
        ·rename_i hk; exact h.probe h1 hk
        ·rename_i hk
         have hk2 : (present c).kind = 2 := by
          rcases h.ph1 h1 with ⟨k, _⟩ | ⟨k, _⟩
          ·exact absurd k hk
          ·exact k
         split
         ·exact h.done hl (.inl ⟨h1, hk2⟩)
         ·exact h.replica _
     ·split
      ·rename_i hc
       split
       ·exact h.done hl (.inr (.inl hc.2.2))
       ·exact (h.bump).gateNo hc.2.2
      ·split
       ·rename_i hc; exact h.done hl (.inr (.inr hc.2.2.1))
       ·split
        ·rename_i hc; exact (h.bump).again hc.2
        ·exact h
structure CtlB (c : CtlD) (l : List StepD) (k : Int) : Prop where
 plan : c.plan = l
 rd : 0 ≤ c.round ∧ c.round ≤ k
 rp : 0 ≤ c.replica ∧ c.replica ≤ 1000 + k
 tk : 0 ≤ c.token
theorem CtlB.mono {c : CtlD} {l : List StepD} {k j : Int} (h : CtlB c l k) (hj : k ≤ j) : CtlB c l j := ⟨h.plan, by have := h.rd; omega, by have := h.rp; omega, h.tk⟩
theorem firstR_rng {rs : List Int} (hr : ∀ k, k < rs.length → 1 ≤ rs.getD k 0 ∧ rs.getD k 0 ≤ 4) (hl : rs.length ≤ 100) (s : Int) : 0 ≤ firstR rs s ∧ firstR rs s ≤ 400 := by
 unfold firstR
 by_cases h : s.toNat ≤ rs.length
 ·have := sum_le hr s.toNat h; omega
 ·have := sum_le hr rs.length (Nat.le_refl _)
  rw [List.take_of_length_le (by omega)]
  rw [List.take_length] at this
  omega
theorem CtlB.tick {p : Prob} {rs : List Int} {c : CtlD} {l : List StepD} {k : Int} (h : CtlB c l k) (hk : k ≤ 100000000) (hr : ∀ k, k < rs.length → 1 ≤ rs.getD k 0 ∧ rs.getD k 0 ≤ 4) (hl : rs.length ≤ 100) : CtlB (tickP p rs c).1 l (k + 1) := by
 have h1 := h.rd; have h2 := h.rp
 unfold tickP
 split
 ·exact h.mono (by omega)
 ·have w : w64 (c.round + 1) = c.round + 1 := w64_is (by omega)
  have hf := firstR_rng hr hl (present c).idx
  refine ⟨h.plan, ?_, ?_, h.tk⟩
  ·show 0 ≤ w64 (c.round + 1) ∧ w64 (c.round + 1) ≤ k + 1
   rw [w]; omega
  ·show 0 ≤ (if (present c).kind = 3 then c.replica else firstR rs (present c).idx) ∧ (if (present c).kind = 3 then c.replica else firstR rs (present c).idx) ≤ 1000 + (k + 1)
   split <;> omega
theorem CtlB.next {p : Prob} {rs : List Int} {c : CtlD} {s : SigD} {l : List StepD} {k : Int} (h : CtlB c l k) (hk : k ≤ 100000000) (hr : ∀ k, k < rs.length → 1 ≤ rs.getD k 0 ∧ rs.getD k 0 ≤ 4) (hl : rs.length ≤ 100) (ht : 0 ≤ s.token) : CtlB (nextP p rs c s).1 l (k + 1) := by
 have h1 := h.rd; have h2 := h.rp; have h3 := h.tk
 have w : w64 (c.round + 1) = c.round + 1 := w64_is (by omega)
 have wr : w64 (c.replica + 1) = c.replica + 1 := w64_is (by omega)
 have hd : CtlB (doneC p c) l (k + 1) := ⟨h.plan, by show 0 ≤ w64 (c.round + 1) ∧ w64 (c.round + 1) ≤ k + 1; rw [w]; omega, by show (0 : Int) ≤ 0 ∧ (0 : Int) ≤ 1000 + (k + 1); omega, h.tk⟩
 have hb : ∀ ph, CtlB { bump c with phase := ph } l (k + 1) := fun ph => ⟨h.plan, by show 0 ≤ w64 (c.round + 1) ∧ w64 (c.round + 1) ≤ k + 1; rw [w]; omega, by show 0 ≤ c.replica ∧ c.replica ≤ 1000 + (k + 1); omega, h.tk⟩
 have hm := h.mono (j := k + 1) (by omega)
 unfold nextP
 split
 ·split
  ·exact hm
  ·exact CtlB.tick (c := { c with token := s.token }) ⟨h.plan, h.rd, h.rp, ht⟩ hk hr hl
 ·split
  ·exact hm
  ·split
   ·exact ⟨hm.plan, hm.rd, hm.rp, by show (0 : Int) ≤ 0; decide⟩
   ·split
    ·exact h.tick hk hr hl
    ·split
     ·unfold ackP
      split
      ·exact hm
      ·split
       ·exact ⟨hm.plan, hm.rd, by show (0 : Int) ≤ 0 ∧ (0 : Int) ≤ 1000 + (k + 1); omega, hm.tk⟩
       ·split
        ·exact ⟨hm.plan, hm.rd, hm.rp, hm.tk⟩
        ·split
         ·exact hd
         ·exact ⟨hm.plan, hm.rd, by show 0 ≤ w64 (c.replica + 1) ∧ w64 (c.replica + 1) ≤ 1000 + (k + 1); rw [wr]; omega, hm.tk⟩
     ·split
      ·split
       ·exact hd
       ·exact hb 3
      ·split
       ·exact hd
       ·split
        ·exact hb 0
        ·exact hm
end Go.Proofs.YtdpeoolildjohaaGreatDoor

namespace Go.Proofs.YtdpeoolildjohaaGreatDoor
open Go Go.RowKit
set_option linter.unusedSimpArgs false
set_option linter.unusedVariables false
theorem apply_some {p : Prob} {m x : MixD} {s : StepD} (h : mixErr p m = 0) (h1 : stepOK s = true) (h2 : thereB p s = true) (h3 : afterP p m s = some x) : applyP p m s = (x, 0) := by
 unfold applyP
 rw [if_neg (by simpa using h), if_neg (by rw [h1]; decide), if_neg (by rw [h2]; decide), h3]
theorem CtlK.applies {p : Prob} {c : CtlD} (h : CtlK p c) (hv : PlanV p c.plan) (hd : (c.phase = 0 ∧ (present c).kind = 1) ∨ (c.phase = 1 ∧ (present c).kind = 2) ∨ c.phase = 4) : applyP p c.mix (present c) = (afterM p c.mix (present c), 0) := by
 have hlt := h.lt (by omega)
 have hr := h.rng
 obtain ⟨s1, s2⟩ := h.stepOK (by omega)
 have hx : ∃ x, afterP p c.mix (present c) = some x := by
  rcases hd with ⟨a, b⟩ | ⟨a, b⟩ | a
  ·exact ⟨_, h.after1 a b⟩
  ·rcases h.ph1 a with ⟨k, _⟩ | ⟨_, m⟩
   ·omega
   ·rw [m]; exact ⟨_, h.plan.after (k := c.at_.toNat) (by omega)⟩
  ·rw [(h.ph4 a).2]; exact ⟨_, h.plan.after (k := c.at_.toNat) (by omega)⟩
 obtain ⟨x, hx⟩ := hx
 have e : afterM p c.mix (present c) = x := by unfold afterM; rw [hx]; rfl
 rw [e]
 exact apply_some (h.valid hv) s1 s2 hx
theorem CtlK.svc {p : Prob} {c : CtlD} (h : CtlK p c) (hp : ¬ c.phase = 6) (hk : ¬ (present c).kind = 3) : 0 ≤ (present c).idx ∧ (present c).idx < p.vs.length ∧ c.mix.base.length = p.vs.length ∧ c.mix.next.length = p.vs.length := by
 have hg := h.g
 have hs := (h.st hp).1
 exact ⟨hs.nn, hs.svc hk, hg.inn.lb, hg.inn.ln⟩
theorem CtlK.aborts {p : Prob} {c : CtlD} (h : CtlK p c) (hv : PlanV p c.plan) (h3 : c.phase = 3) : applyP p c.mix ⟨4, (present c).idx, 0⟩ = (abortedP p c.plan c.at_, 0) := by
 have hlt := h.lt (by omega)
 have hr := h.rng
 have hk := h.ph2 (.inr h3)
 have hi := h.svc (by omega) (by omega)
 obtain ⟨s1, s2⟩ := abort_ok (p := p) (i := (present c).idx) ⟨hi.1, hi.2.1⟩
 refine apply_some (h.valid hv) s1 s2 ?_
 rw [hk.2]
 exact (h.plan.abort ⟨hr.1, hlt⟩ hk.1).2.2
end Go.Proofs.YtdpeoolildjohaaGreatDoor

namespace Go.Proofs.YtdpeoolildjohaaGreatDoor
open Go Go.RowKit
set_option linter.unusedSimpArgs false
set_option linter.unusedVariables false
section
variable {V X : Nat → Prop} {Z : Key → Hd} {w0 w : World} {N : Nat} {ρ : Key → Hd} {ok ok' : Key → Prop} {lt lt' : Nat → Option AV} {lb lb' : Key → Option Box} {a : Act}
theorem Rel.names (φ : List (Key × Key)) (h0 : φ.all (fun x => x.1.2 != 0) = true) (h1 : ∀ q : Key, q.2 = 0 → ok' q)
    (ht : ∀ t av, lt' t = some av → lt t = some (renAV (renF φ) av) ∧ ∀ q ∈ keysAV av, ok' q)
    (hb : ∀ q box, lb' q = some box → lb (renF φ q) = some (renB (renF φ) box) ∧ ok' q ∧ ∀ k ∈ keysB (some box), ok' k)
    (hi : ∀ q q' box box', lb' q = some box → lb' q' = some box' → renF φ q = renF φ q' → q = q') (h : Rel V X Z w0 N ρ ok lt lb a w) : Rel V X Z w0 N (fun q => ρ (renF φ q)) ok' lt' lb' a w := by
 have him : ∀ b, b < w.heap.size → Im V ρ lb b → Im V (fun q => ρ (renF φ q)) lb' b := fun b _ hi' => ⟨hi'.1, fun q box hq hl => hi'.2 _ _ (hb q box hq).1 (by rw [renB_live]; exact hl)⟩
 have hz : ∀ q : Key, q.2 = 0 → renF φ q = q := fun q hq => by
  unfold renF
  have : lk φ q = none := by
   clear ht hb hi him
   induction φ with
   | nil => rfl
   | cons x r ih =>
    obtain ⟨k, v⟩ := x
    simp only [List.all_cons, Bool.and_eq_true, bne_iff_ne] at h0
    show (if q = k then some v else lk r q) = none
    rw [if_neg (fun e => h0.1 (by rw [← e]; exact hq))]
    exact ih h0.2
  rw [this]
 refine ⟨h.size, h.defers, fun t av hq => ?_, fun q box hq => ?_, fun q b1 q' b2 b e1 l1 e2 l2 g1 g2 => ?_, fun q box b hq hl hg => ?_, h.fr, h.va, fun q hq => ?_⟩
 ·obtain ⟨k1, k2⟩ := ht t av hq
  obtain ⟨k3, k4⟩ := h.tm t _ k1
  exact ⟨k3, k4.ren him k2⟩
 ·obtain ⟨k1, k2, k3⟩ := hb q box hq
  exact ⟨k2, (h.bx _ _ k1).2.ren him k3⟩
 ·exact hi q q' b1 b2 e1 e2 (h.ap _ _ _ _ b (hb q b1 e1).1 (by rw [renB_live]; exact l1) (hb q' b2 e2).1 (by rw [renB_live]; exact l2) g1 g2)
 ·exact h.lo _ _ b (hb q box hq).1 (by rw [renB_live]; exact hl) hg
 ·refine ⟨h1 q hq, ?_⟩
  show ρ (renF φ q) = Z q
  rw [hz q hq]
  exact (h.zz q hq).2
end
def resK (cells : Key → List C) (ty : TypeId) (sz : Nat) (rows : List (List D)) (q : Key) : ARes := { vals := [], ios := [cells q], bx := [(q, .sl ty sz rows)] }
inductive FinK (P : Program) (fn : Func) (args : List Arg) (cells : Key → List C) (ty : TypeId) (sz : Nat) (rows : List (List D)) (ax : AX) (st : St) : Prop
 | mk (q : Key) (hq : (q != (0, 0)) = true) (h : FinO P fn args (resK cells ty sz rows q) ax st)
def lastK : List C → Key
 | [] => (0, 0)
 | [.own q] => q
 | _ :: r => lastK r
def keyOf (bo : BO) : Key := match lko bo (0, 0) with
 | some (.st _ cs) => lastK cs
 | _ => (0, 0)
section
variable {P : Program} {N : Nat} {cells : Key → List C} {ty T : TypeId} {sz : Nat} {rows : List (List D)}
theorem resK_ren (hc : ∀ f q, (cells q).map (renC f) = cells (f q)) (hk : ∀ q, (cells q).flatMap keysC = [q]) {V X : Nat → Prop} {Z : Key → Hd} {w w' : World} {a : Act} {ρ : Key → Hd} {cs0 : List C} {rest : List Arg} (hr : rest.all (fun a => !isIo a) = true) (q : Key) (hq : (q != (0, 0)) = true)
    (h : Rel V X Z w 1 ρ (fun _ => True) (ltOne (resAV id [])) (lk (ioBx 0 (.io T cs0 :: rest) [cells q] ++ [(q, .sl ty sz rows)])) a w') : Rel V X Z w 1 (fun k => ρ (renF [((0, 1), q)] k)) (fun _ => True) (ltOne (resAV id [])) (lk (ioBx 0 (.io T cs0 :: rest) [cells (0, 1)] ++ [((0, 1), .sl ty sz rows)])) a w' := by
 have hio : ∀ (x : List C) (i : Nat) (l : List Arg), l.all (fun a => !isIo a) = true → ioBx i l [] = [] := by
  intro x i l
  induction l generalizing i with
  | nil => intro _; rfl
  | cons y r ih =>
   intro hl
   simp only [List.all_cons, Bool.and_eq_true] at hl
   cases y with
   | val b cs => exact ih (i + 1) hl.2
   | io t cs => exact absurd hl.1 (by simp [isIo])
 have e : ∀ x : List C, ioBx 0 (.io T cs0 :: rest) [x] = [((0, 0), .st T x)] := fun x => by
  show ((0, 0), Box.st T x) :: ioBx 1 rest [] = _
  rw [hio x 1 rest hr]
 rw [e] at h ⊢
 have hq' : q ≠ (0, 0) := by simpa using hq
 have r1 : renF [((0, 1), q)] (0, 1) = q := rfl
 have r0 : renF [((0, 1), q)] (0, 0) = (0, 0) := rfl
 refine Rel.names [((0, 1), q)] rfl (fun _ _ => trivial) (fun t av ht => ?_) (fun k box hk' => ?_) (fun k k' b b' e1 e2 e3 => ?_) h
 ·unfold ltOne at ht ⊢
  split at ht
  ·rename_i e0
   cases ht
   exact ⟨by simp [resAV, renAV]; exact e0, fun _ _ => trivial⟩
  ·cases ht
 ·simp only [List.cons_append, List.nil_append] at hk' ⊢
  unfold lk at hk'
  split at hk'
  ·rename_i e1
   cases hk'
   subst e1
   refine ⟨?_, trivial, fun _ _ => trivial⟩
   rw [r0]
   show (if (0, 0) = (0, 0) then _ else _) = _
   rw [if_pos rfl]
   show some (Box.st T (cells q)) = some (Box.st T ((cells (0, 1)).map (renC (renF [((0, 1), q)]))))
   rw [hc, r1]
  ·unfold lk at hk'
   split at hk'
   ·rename_i e1
    cases hk'
    subst e1
    refine ⟨?_, trivial, fun _ _ => trivial⟩
    rw [r1]
    show (if q = (0, 0) then _ else if q = q then _ else _) = _
    rw [if_neg hq', if_pos rfl]
    rfl
   ·cases hk'
 ·have two : ∀ k b, lk ([((0, 0), Box.st T (cells (0, 1)))] ++ [((0, 1), Box.sl ty sz rows)]) k = some b → k = (0, 0) ∨ k = (0, 1) := by
    intro k b hk'
    simp only [List.cons_append, List.nil_append] at hk'
    unfold lk at hk'
    split at hk'
    ·rename_i e1; exact .inl e1
    ·unfold lk at hk'
     split at hk'
     ·rename_i e1; exact .inr e1
     ·cases hk'
  rcases two k b e1 with rfl | rfl <;> rcases two k' b' e2 with rfl | rfl
  ·rfl
  ·rw [r0, r1] at e3; exact absurd e3.symm hq'
  ·rw [r0, r1] at e3; exact absurd e3 hq'
  ·rfl
theorem fn_of_JK {f : FuncId} {fn : Func} {body : Code} {bxs : List (Key × Box)} {cs0 : List C} {rest : List Arg} (hc : ∀ f q, (cells q).map (renC f) = cells (f q)) (hk : ∀ q, (cells q).flatMap keysC = [q]) (hr : rest.all (fun a => !isIo a) = true) (hf : P.funcs[f]? = some fn) (hbody : fn.body = some body) (hp : fn.params.size ≤ (Arg.io T cs0 :: rest).length) (hn : (Arg.io T cs0 :: rest).length ≤ fn.ntmps)
    (h : J P fn.ntmps body ⟨argTm 0 (.io T cs0 :: rest), argBx 0 (.io T cs0 :: rest) ++ bxs, 1⟩ (FinK P fn (.io T cs0 :: rest) cells ty sz rows)) : FnSound P f (.io T cs0 :: rest) bxs (resK cells ty sz rows (0, 1)) := by
 intro V X Z ρ w vals hlen hR
 refine calls_of_wp hf hbody ?_
 have hsz : (vals.toArray ++ Array.replicate (fn.ntmps - vals.toArray.size) undef).size = fn.ntmps := by simp; omega
 have h0 : SR V X Z w fn.ntmps { tm := argTm 0 (.io T cs0 :: rest), bx := argBx 0 (.io T cs0 :: rest) ++ bxs, nx := 1 } { tmps := vals.toArray ++ Array.replicate (fn.ntmps - vals.toArray.size) undef, defers := [] } w := by
  refine ⟨ρ, hsz, rfl, fun t av ht => ?_, hR.bx, hR.ap, hR.lo, hR.fr, hR.va, hR.zz⟩
  obtain ⟨h1, h2⟩ := hR.tm t av ht
  refine ⟨by omega, ?_⟩
  have e1 : (vals.toArray ++ Array.replicate (fn.ntmps - vals.toArray.size) undef).getD t undef = vals.toArray.getD t undef := by
   simp [Array.getD_eq_getD_getElem?, Array.getElem?_append, h1]
  rw [e1]
  exact h2
 have fin : ∀ (s : St) (a : Act) (w' : World) (ax : AX), SR V X Z w fn.ntmps s a w' → (ax = .normal ∨ ax = .ret) → FinK P fn (.io T cs0 :: rest) cells ty sz rows ax s → a.defers = [] ∧ ∃ v, (results fn a.tmps).run P w' = .ok v w' ∧ ∃ v' ρ', Ending.returned v = .returned v' ∧ Rel V X Z w 1 ρ' (fun _ => True) (ltOne (resAV id (resK cells ty sz rows (0, 1)).vals)) (lk (ioBx 0 (.io T cs0 :: rest) (resK cells ty sz rows (0, 1)).ios ++ (resK cells ty sz rows (0, 1)).bx)) ⟨#[v'], []⟩ w' := by
  rintro s a w' ax hs hax ⟨q, hq, ⟨hz⟩⟩
  have hz' : match outR P true fn (.io T cs0 :: rest) s with | some r0 => resZ r0 (resK cells ty sz rows q) | none => False := by
   rcases hax with rfl | rfl <;> exact hz
  obtain ⟨h1, v, h2, v', ρ', h3, hR'⟩ := fin_soundZ s a w' hs hz'
  exact ⟨h1, v, h2, v', _, h3, resK_ren hc hk hr q hq hR'⟩
 refine wp_mono (h V X Z w _ w h0) (fun e a w' hq => ?_)
 cases e with
 | normal => obtain ⟨s, h1, h2⟩ := hq; exact fin s a w' .normal h2 (.inl rfl) h1
 | ret => obtain ⟨s, h1, h2⟩ := hq; exact fin s a w' .ret h2 (.inr rfl) h1
 | exit id => obtain ⟨s, ⟨q, _, ⟨h1⟩⟩, h2⟩ := hq; exact h1.elim
 | goto l => exact hq.elim
 | panic ch => exact hq.elim
 | outgrown => exact hq.elim
theorem startK {f : FuncId} {fn : Func} {body : Code} {bxs : List (Key × Box)} {cs0 : List C} {rest : List Arg} {tm : List (Nat × AV)} (bo : BO) (hf : P.funcs[f]? = some fn) (hbody : fn.body = some body) (hN : fn.ntmps = N) (hp : decide (fn.params.size ≤ (Arg.io T cs0 :: rest).length) = true) (hn : decide ((Arg.io T cs0 :: rest).length ≤ N) = true) (hbo : argBx 0 (.io T cs0 :: rest) ++ bxs = clean bo) (htm : argTm 0 (.io T cs0 :: rest) = tm)
    (h : JL P N [body] ⟨tm, clean bo, 1⟩ (FinK P fn (.io T cs0 :: rest) cells ty sz rows)) (hr : rest.all (fun a => !isIo a) = true := by exact rfl) (hc : ∀ f q, (cells q).map (renC f) = cells (f q) := by exact fun _ _ => rfl) (hk : ∀ q, (cells q).flatMap keysC = [q] := by exact fun _ => rfl) : FnSound P f (.io T cs0 :: rest) bxs (resK cells ty sz rows (0, 1)) := by
 subst htm
 subst hN
 refine fn_of_JK hc hk hr hf hbody (by simpa using hp) (of_decide_eq_true hn) ?_
 rw [hbo]
 rw [JL_cons] at h
 refine h.mono fun ax s hs => ?_
 cases ax with
 | normal => exact hs
 | exit i => exact hs
 | ret => exact hs
theorem FK_at {fn : Func} {args : List Arg} {ax : AX} {st : St} (h : FinK P fn args cells ty sz rows ax st) : FinK P fn args cells ty sz rows ax st := h
theorem eK {fn : Func} {args : List Arg} {tm : List (Nat × AV)} {bo : BO} {nx : Nat} {ax : AX} (hfr : fn.results = #[]) (h : outO (clean bo) [] args = some (resK cells ty sz rows (keyOf bo))) (hq : (keyOf bo != (0, 0)) = true := by kernel_rfl) (hax : ax = .ret ∨ ax = .normal := by first | exact .inl rfl | exact .inr rfl) : FinK P fn args cells ty sz rows ax ⟨tm, clean bo, nx⟩ := by
 have hl : fn.results = ([] : List ResultVar).toArray := hfr
 rcases hax with rfl | rfl
 ·exact ⟨_, hq, endO1 hl .nil h⟩
 ·exact ⟨_, hq, endO1n hl .nil h⟩
end
end Go.Proofs.YtdpeoolildjohaaGreatDoor

namespace Go.Proofs.YtdpeoolildjohaaGreatDoor
open Go Go.RowKit
set_option linter.unusedSimpArgs false
set_option linter.unusedVariables false
section
variable {P : Program} {lend : FuncId → Bool} {N : Nat} {ops : Array Oper} {dr : Bool} {cs : List Code} {R : AX → St → Prop} {i : Nat} {os : List Oper} {tm : List (Nat × AV)} {bo : BO} {nx : Nat} {ns : List Note} {d : Nat} {pos : String} {ty : TypeId} {af : Array Edge}
theorem W.callMt {g : FuncId} {args : Array Operand} {tyq : Array TypeId} {xa : List Arg} {q0 qo κ : Key} {T : TypeId} {b0 : Box} {bx0 : List (Key × Box)} {cells : Key → List C} {ty0 : TypeId} {sz : Nat} {rows : List (List D)} (k : Nat) (hd : Nat.blt d N = true) (hk : i * 64 = k) (hbod : BoI P g) (hK : FnSound P g xa bx0 (resK cells ty0 sz rows (0, 1)))
    (hna : argsOf (onlyT ⟨some d, .call ⟨.value (.func g), args, tyq⟩, ty, pos, af, none⟩ (lk tm)) (onlyB (opKeys (lk tm) (lko bo) ⟨some d, .call ⟨.value (.func g), args, tyq⟩, ty, pos, af, none⟩) (lko bo)) (lend g) args.toList = none)
    (ha : ioArgs (onlyT ⟨some d, .call ⟨.value (.func g), args, tyq⟩, ty, pos, af, none⟩ (lk tm)) (onlyB (opKeys (lk tm) (lko bo) ⟨some d, .call ⟨.value (.func g), args, tyq⟩, ty, pos, af, none⟩) (lko bo)) 0 args.toList = some (xa, [], [(q0, T)], [(qo, κ, b0)])) (hbs : [(κ, b0)] = bx0)
    (hn1 : nodup ((dictOf xa [(q0, T)] [(qo, κ, b0)]).map (·.1)) = true) (hn2 : nodup ((dictOf xa [(q0, T)] [(qo, κ, b0)]).map (·.2)) = true) (hz : ((dictOf xa [(q0, T)] [(qo, κ, b0)]).all fun x => x.1.2 == 0) = true) (hcl : (resK cells ty0 sz rows (0, 1)).closed = true) (hnd : nodup ((ioBx 0 xa (resK cells ty0 sz rows (0, 1)).ios ++ (resK cells ty0 sz rows (0, 1)).bx).map (·.1)) = true)
    (hc : ∀ f q, (cells q).map (renC f) = cells (f q))
    (h : W P lend N ops dr cs R (i + 1) os ((d, .tup []) :: tm) ((q0, some (.st T (cells (k, nx)))) :: ((k, nx), some (.sl ty0 sz rows)) :: (qo, none) :: bo) nx (ns ++ [⟨opKeys (lk tm) (lko bo) ⟨some d, .call ⟨.value (.func g), args, tyq⟩, ty, pos, af, none⟩, [q0, (k, nx), qo]⟩])) : W P lend N ops dr cs R i (⟨some d, .call ⟨.value (.func g), args, tyq⟩, ty, pos, af, none⟩ :: os) tm bo nx ns := by
 subst hk
 have e1 : renK (keyAt i nx) [(((0, 1) : Key), Box.sl ty0 sz rows)] 0 (0, 1) = (i * 64, nx) := by unfold renK; rw [if_pos rfl]; rfl
 refine W.callIO (qs := [(q0, T)]) (bs := [(qo, κ, b0)]) (r := resK cells ty0 sz rows (0, 1)) (av := .tup []) (up := [(q0, some (.st T (cells (i * 64, nx)))), ((i * 64, nx), some (.sl ty0 sz rows)), (qo, none)]) hd hbod hK hna ha hbs hn1 hn2 hz rfl rfl hcl hnd rfl rfl ?_ h
 show putIo (renK (keyAt i nx) [((0, 1), Box.sl ty0 sz rows)] 0) [(q0, T)] [cells (0, 1)] ++ (takeBx (renK (keyAt i nx) [((0, 1), Box.sl ty0 sz rows)] 0) (keyAt i nx) [((0, 1), Box.sl ty0 sz rows)] 0 ++ [(qo, none)]) = _
 simp only [putIo, takeBx, hc, e1, renBx, List.cons_append, List.nil_append]
 rfl
end
theorem zT {P Q K : Prop} (c : K) (q : Q) (h : K → Q → P := by
 intro c q
 (first | refine W.callMt _ rfl m64 BoC.h c rfl rfl rfl rfl rfl rfl rfl rfl (fun _ _ => rfl) ?_)
 exact q) : P := h c q
end Go.Proofs.YtdpeoolildjohaaGreatDoor

namespace Go.Proofs.YtdpeoolildjohaaGreatDoor
open Go Go.RowKit
set_option maxRecDepth 100000
set_option maxHeartbeats 8000000
set_option linter.unusedSimpArgs false
set_option linter.unusedVariables false
theorem cfirst_fn (rs : List Int) (s : Int) (hs : 0 ≤ s ∧ s ≤ rs.length) (hr : ∀ k, k < rs.length → 1 ≤ rs.getD k 0 ∧ rs.getD k 0 ≤ 4) (hl : rs.length ≤ 100) : FnSound Tryz.prog 85 [.val false [.d (.sl 1 (dInts rs))], .val false [.d (.v (.int .i64 s))]] [] { vals := [(false, [.d (.v (.int .i64 (firstR rs s)))])] } := by
 have hsl := sum_le hr
 have e1 : List.take (s.toNat - Int.toNat 0) (List.drop (Int.toNat 0) rs) = rs.take s.toNat := by simp
 have e2 : (List.take (s.toNat - Int.toNat 0) (List.drop (Int.toNat 0) rs)).length = s.toNat := by rw [e1, List.length_take]; omega
 have e3 : ∀ k : Nat, (k : Int) < s → (List.take (s.toNat - Int.toNat 0) (List.drop (Int.toNat 0) rs)).getD k 0 = rs.getD k 0 := fun k hk => by
  rw [e1, List.getD_eq_getElem?_getD, List.getElem?_take_of_lt (by omega), ← List.getD_eq_getElem?_getD]
 refine startW (tm := [(0, _), (1, _)]) Tryz.func85 rfl Tryz.ntmps85 rfl rfl rfl rfl ?_
 repeat' (first
 |(with_reducible refine blk_at (id := 0) ?_); ((with_reducible refine JL.loopW 0 399 (fun (k : Nat) tm => (12, .one false [.d (.v (.int .i64 ((k : Int))))]) :: (5, .one false [.d (.v (.int .i64 ((rs.take k).sum)))]) :: tm) (fun (k : Nat) bo => bo) (fun (k : Nat) => (k : Int) ≤ s) (fun (k : Nat) => s.toNat - k) (0) ?_ (fun k hk => have h1 := hsl k; have h2 := hr k; have h3 := e3 k; ?_) ?_); (focus (apply SubW [] rfl ?_ ?_ rfl ?_; (repeat' (first | exact kA | refine kB ?_ | refine kC ?_ ?_ | exact kD | fail)))))
 |((with_reducible refine round_next (i := k) (k + 1) ?_ ?_ ?_); (focus (apply SubW [] rfl ?_ ?_ rfl ?_; (repeat' (first | exact kA | refine kB ?_ | refine kC ?_ ?_ | exact kD | fail)))))
 |refine wA ?_
 |(refine wC ?_ ?_ <;> intro hc)
 |refine wB ?_ ?_
 |(with_reducible refine JL.block ?_)
 |(with_reducible refine F_at ?_); refine eW (vs := [(_, _)]) Tryz.results85 ?_; (focus (repeat' (first | exact oA | refine oB ?_ | refine oC ?_ ?_ | fail)))
 |exact oM
 |fail)
 all_goals first
  | rfl
  | (rw [h3 (by omega), ← sum_step (by omega)])
  | omega
  | (have e : k = s.toNat := by omega
     rw [e]; rfl)
  | trace_state
theorem dActs_snoc (a : List ActD) (x : ActD) : dActs (a ++ [x]) = dActs a ++ [actRow x] := by unfold dActs; rw [List.map_append]; rfl
def machL (p : Prob) (rs : List Int) (l : List StepD) (at_ ph rp rd tk : Int) (m : MixD) (q : Key) : List C := [.d (.sl 1 (dInts p.vs)), .d (.sl 1 (dInts p.now)), .d (.sl 1 (dInts p.tgt)), .d (.sl 6 (dTabs p.tabs)), .d (.sl 1 (dInts rs)), .d (.sl 3 (dSteps l)), .d (.v (.int .i64 at_)), .d (.v (.int .i64 ph)), .d (.v (.int .i64 rp)), .d (.v (.int .i64 rd)), .d (.v (.int .i64 tk)), .d (.sl 1 (dInts m.base)), .d (.sl 1 (dInts m.next)), .d (.sl 1 (dSets m.held)), .own q]
def machC (p : Prob) (rs : List Int) (c : CtlD) (q : Key) : List C := machL p rs c.plan c.at_ c.phase c.replica c.round c.token c.mix q
def machD (p : Prob) (rs : List Int) (c : CtlD) (a : List ActD) : List D := [.sl 1 (dInts p.vs), .sl 1 (dInts p.now), .sl 1 (dInts p.tgt), .sl 6 (dTabs p.tabs), .sl 1 (dInts rs), .sl 3 (dSteps c.plan), .v (.int .i64 c.at_), .v (.int .i64 c.phase), .v (.int .i64 c.replica), .v (.int .i64 c.round), .v (.int .i64 c.token), .sl 1 (dInts c.mix.base), .sl 1 (dInts c.mix.next), .sl 1 (dSets c.mix.held), .sl 10 (dActs a)]
def actB (a : List ActD) : List (Key × Box) := [((1000, 0), .sl 72 10 (dActs a))]
abbrev mBo (p : Prob) (rs : List Int) (c : CtlD) (a : List ActD) : BO := [((0, 0), some (.st 124 (machC p rs c (1000, 0)))), ((1000, 0), some (.sl 72 10 (dActs a)))]
def mResL (p : Prob) (rs : List Int) (l : List StepD) (at_ ph rp rd tk : Int) (m : MixD) (a : List ActD) : ARes := resK (machL p rs l at_ ph rp rd tk m) 72 10 (dActs a) (0, 1)
def mRes (p : Prob) (rs : List Int) (c : CtlD) (a : List ActD) : ARes := resK (machC p rs c) 72 10 (dActs a) (0, 1)
section
variable (p : Prob) (rs : List Int) (c : CtlD) (a : List ActD)
theorem mpresent_fn (h0 : 0 ≤ c.at_ ∧ c.at_ < c.plan.length) (hl : c.plan.length ≤ 1000000) (s : StepD) (he : present c = s) : FnSound Tryz.prog 99 [.val false [.rptr (machD p rs c a) 0]] [] { vals := [(true, stepC s)] } := by
 subst he
 refine startW (tm := [(0, _)]) Tryz.func99 rfl Tryz.ntmps99 rfl rfl rfl rfl ?_
 repeat' (first
 |refine wA ?_
 |(refine wC ?_ ?_ <;> intro hc)
 |refine wB ?_ ?_
 |(with_reducible refine JL.block ?_)
 |(with_reducible refine F_at ?_); refine eW (vs := [(_, _)]) Tryz.results99 ?_; (focus (repeat' (first | exact oA | refine oB ?_ | refine oC ?_ ?_ | fail)))
 |exact oM
 |fail)
 all_goals first | (exfalso; omega) | (unfold wantedP; rw [if_pos (by assumption)]; done) | (unfold wantedP; rw [if_neg (by assumption)]; done) | kernel_rfl
theorem mwanted_fn (h0 : 0 ≤ c.at_ ∧ c.at_ < c.plan.length) (hl : c.plan.length ≤ 1000000) (hi : 0 ≤ (present c).idx ∧ (present c).idx < c.mix.base.length ∧ (present c).idx < c.mix.next.length) : FnSound Tryz.prog 149 [.val false [.rptr (machD p rs c a) 0]] [] { vals := [(false, [.d (.v (.int .i64 (wantedP c)))])] } := by
 refine startW (tm := [(0, _)]) Tryz.func149 rfl Tryz.ntmps149 rfl rfl rfl rfl ?_
 repeat' (first
 |(with_reducible refine rgL (fun g => g == 99) ?_ ?_); exact rfl
 |(with_reducible refine K_ca 99 ?_); refine zC (mpresent_fn p rs c a h0 hl _ rfl) ?_
 |refine wA ?_
 |(refine wC ?_ ?_ <;> intro hc)
 |refine wB ?_ ?_
 |(with_reducible refine JL.block ?_)
 |(with_reducible refine F_at ?_); refine eW (vs := [(_, _)]) Tryz.results149 ?_; (focus (repeat' (first | exact oA | refine oB ?_ | refine oC ?_ ?_ | fail)))
 |exact oM
 |fail)
 all_goals first | (exfalso; omega) | (unfold wantedP; rw [if_pos (by assumption)]; done) | (unfold wantedP; rw [if_neg (by assumption)]; done) | kernel_rfl
theorem mcommand_fn (h0 : 0 ≤ c.at_ ∧ c.at_ < c.plan.length) (hl : c.plan.length ≤ 1000000) (hi : 0 ≤ (present c).idx ∧ (present c).idx < c.mix.base.length ∧ (present c).idx < c.mix.next.length) : FnSound Tryz.prog 126 [.val false [.rptr (machD p rs c a) 0]] [] { vals := [(true, [.d (.v (.int .i64 c.round)), .d (.v (.int .i64 c.replica)), .d (.v (.int .i64 (wantedP c)))])] } := by
 refine startW (tm := [(0, _)]) Tryz.func126 rfl Tryz.ntmps126 rfl rfl rfl rfl ?_
 repeat' (first
 |(with_reducible refine rgL (fun g => g == 149) ?_ ?_); exact rfl
 |(with_reducible refine K_ca 149 ?_); refine zC (mwanted_fn p rs c a h0 hl hi) ?_
 |refine wA ?_
 |(refine wC ?_ ?_ <;> intro hc)
 |refine wB ?_ ?_
 |(with_reducible refine JL.block ?_)
 |(with_reducible refine F_at ?_); refine eW (vs := [(_, _)]) Tryz.results126 ?_; (focus (repeat' (first | exact oA | refine oB ?_ | refine oC ?_ ?_ | fail)))
 |exact oM
 |fail)
 all_goals first | (exfalso; omega) | (unfold wantedP; rw [if_pos (by assumption)]; done) | (unfold wantedP; rw [if_neg (by assumption)]; done) | kernel_rfl
theorem mwrite_fn (k : Int) (hrd : -1000000000 ≤ c.round ∧ c.round ≤ 1000000000) (hla : a.length ≤ 1000) : FnSound Tryz.prog 101 [.io 124 (machC p rs c (1000, 0)), .val false [.d (.v (.int .i64 k))]] (actB a) (mResL p rs c.plan c.at_ c.phase c.replica (c.round + 1) c.token c.mix (a ++ [entA c k])) := by
 refine startK (tm := [(0, _), (1, _)]) (mBo p rs c a) Tryz.func101 rfl Tryz.ntmps101 rfl rfl rfl rfl ?_
 repeat' (first
 |refine wA ?_
 |(refine wC ?_ ?_ <;> intro hc)
 |refine wB ?_ ?_
 |(with_reducible refine JL.block ?_)
 |(with_reducible refine FK_at ?_); refine eK Tryz.results101 ?_
 |exact oM
 |fail)
 all_goals first | (exfalso; omega) | (rw [dActs_snoc]; kernel_rfl) | kernel_rfl
end
theorem mmove_fn (p : Prob) (rs : List Int) (l : List StepD) (at_ ph rp rd tk : Int) (m : MixD) (a : List ActD) (s : StepD) (M : MixD) (hu : u8s m.held) (hm : applyP p m s = (M, 0)) : FnSound Tryz.prog 127 [.io 124 (machL p rs l at_ ph rp rd tk m (1000, 0)), .val true (stepC s)] (actB a) (mResL p rs l at_ ph rp rd tk M a) := by
 have ha := qapply_fn p m s hu
 rw [hm] at ha
 refine startK (tm := [(0, _), (1, _)]) [((0, 0), some (.st 124 (machL p rs l at_ ph rp rd tk m (1000, 0)))), ((1000, 0), some (.sl 72 10 (dActs a)))] Tryz.func127 rfl Tryz.ntmps127 rfl rfl rfl rfl ?_
 repeat' (first
 |(with_reducible refine K_ca 89 ?_); refine zC (ha) ?_
 |refine wA ?_
 |(refine wC ?_ ?_ <;> intro hc)
 |refine wB ?_ ?_
 |(with_reducible refine JL.block ?_)
 |(with_reducible refine FK_at ?_); refine eK Tryz.results127 ?_
 |exact oM
 |fail)
 all_goals first | (exfalso; omega) | kernel_rfl
end Go.Proofs.YtdpeoolildjohaaGreatDoor

