/- Rules of runs and contracts of functions, for the claims of one seat. -/
import Derived.Test.YtbdjcgjdmhgnmaaGreatQA14
import Derived.Test.YtbdjcgjdmhgnmaaGreatQA28
import Derived.Test.YtbdjcgjdmhgnmaaGreatQA29
import Derived.Test.YtbdjcgjdmhgnmaaGreatQA35
import Derived.Test.YtbdjcgjdmhgnmaaGreatQD3
namespace Go.Proofs.YtbdjcgjdmhgnmaaGreat
open Go Go.RowKit
set_option maxRecDepth 100000
set_option maxHeartbeats 8000000
set_option linter.unusedSimpArgs false
set_option linter.unusedVariables false
theorem pcopied_fn (c : CtlD) (hl : c.plan.length ≤ 1000000) (hf : c.mix.base.length ≤ 1000 ∧ c.mix.next.length ≤ 1000 ∧ c.mix.held.length ≤ 1000) : FnSound Tryz.prog 43 [.val true (ctlC c)] [] { vals := [(true, ctlC c)] } := by
 refine startW (tm := [(0, _)]) Tryz.func43 rfl Tryz.ntmps43 rfl rfl rfl rfl ?_
 repeat' (first
 |(with_reducible refine K_ca 58 ?_); refine zS (cloneSteps_fn c.plan hl) ?_
 |(with_reducible refine K_ca 90 ?_); (first
 |refine zS (cloneInts_fn c.mix.base (by omega)) ?_
 |refine zS (cloneInts_fn c.mix.next (by omega)) ?_)
 |(with_reducible refine K_ca 91 ?_); refine zS (cloneSets_fn c.mix.held (by omega)) ?_
 |refine wA ?_
 |(refine wC ?_ ?_ <;> intro hc)
 |refine wB ?_ ?_
 |(with_reducible refine JL.block ?_)
 |(with_reducible refine F_at ?_); refine eW (vs := [(_, _)]) Tryz.results43 ?_; (focus (repeat' (first | exact oA | refine oB ?_ | refine oC ?_ ?_ | fail)))
 |exact oM
 |fail)
 all_goals first | rfl | trace_state
theorem forget_12 {p : Prob} {rs : List Int} {c : CtlD} (h : c.phase = 1 ∨ c.phase = 2) : forgetP p rs c = ⟨c.plan, c.at_, 1, firstR rs (c.plan.getD c.at_.toNat nilS).idx, c.round, 0, c.mix⟩ := by unfold forgetP; rw [if_pos h]; rfl
theorem forget_5 {p : Prob} {rs : List Int} {c : CtlD} (h : c.phase = 5) : forgetP p rs c = ⟨c.plan, c.at_, 3, firstR rs (c.plan.getD c.at_.toNat nilS).idx, c.round, 0, afterM p c.mix (c.plan.getD c.at_.toNat nilS)⟩ := by unfold forgetP; rw [if_neg (by omega), if_pos h]; rfl
theorem forget_0 {p : Prob} {rs : List Int} {c : CtlD} (h : ¬ (c.phase = 1 ∨ c.phase = 2)) (h5 : ¬ c.phase = 5) : forgetP p rs c = ⟨c.plan, c.at_, c.phase, c.replica, c.round, 0, c.mix⟩ := by unfold forgetP; rw [if_neg h, if_neg h5]
theorem pforget_fn (p : Prob) (rs : List Int) (c : CtlD) (n : Int) (h : SigK p rs c.plan c n) (hn : 0 ≤ n ∧ n ≤ 10000000) (hs : setErr p rs = 0) (hc : checkP p c.plan = true) (hl : c.plan.length ≤ 1000000) : FnSound Tryz.prog 22 [.val true (probC p), .val false [.d (.sl 1 (dInts rs))], .val true (ctlC c)] [] { vals := [(true, ctlC (forgetP p rs c)), (false, [.d (.v (.int .i64 0))])] } := by
 have hso := setErr_ok hs
 have hvp := vp_all hso.1
 have hv := planV_of hso.1 hc
 have hrl := hso.2.1
 have hpd := ppend_fn p rs c n h hn hs hc hl
 have hcp := pcopied_fn c hl (few_of h.ck.g)
 have hr := h.ck.rng
 have hsv := h.ck.svc
 have hk1 := h.ck.ph1
 have hk2 := h.ck.ph2
 have hk5 := h.ck.ph5
 have hlt := fun b => h.ck.lt b
 have hi : (c.phase = 1 ∨ c.phase = 2) ∨ c.phase = 5 → 0 ≤ (c.plan.getD c.at_.toNat nilS).idx ∧ (c.plan.getD c.at_.toNat nilS).idx < p.vs.length := fun b => by
  have hk3 : ¬ (present c).kind = 3 := by
   rcases b with (b | b) | b
   ·rcases hk1 b with x | x <;> omega
   ·have := (hk2 (.inl b)).1; omega
   ·have := (hk5 b).1; omega
  have := hsv (by omega) hk3
  exact ⟨this.1, this.2.1⟩
 have hfr := fun b => pfirst_fn rs (c.plan.getD c.at_.toNat nilS).idx b hso.2.2 (by omega)
 by_cases h12 : c.phase = 1 ∨ c.phase = 2
 ·have hi := hi (.inl h12)
  have hfr := hfr (by omega)
  have hlt := hlt (by omega)
  rw [forget_12 h12]
  clear h hv hso hk1 hk2 hk5 hsv
  refine startW (tm := [(0, _), (1, _), (2, _)]) Tryz.func22 rfl Tryz.ntmps22 rfl rfl rfl rfl ?_
  repeat' (first
 |(with_reducible refine K_ca 42 ?_); refine zC (hpd) ?_
 |(with_reducible refine K_ca 43 ?_); refine zC (hcp) ?_
 |(with_reducible refine K_ca 44 ?_); refine zC (hfr) ?_
 |refine wA ?_
 |(refine wC ?_ ?_ <;> intro hc)
 |refine wB ?_ ?_
 |(with_reducible refine JL.block ?_)
 |(with_reducible refine F_at ?_); refine eW (vs := [(_, _), (_, _)]) Tryz.results22 ?_; (focus (repeat' (first | exact oA | refine oB ?_ | refine oC ?_ ?_ | fail)))
 |exact oM
 |fail)
  all_goals first | rfl | (exfalso; omega) | trace_state
 ·by_cases h5 : c.phase = 5
  ·have hi := hi (.inr h5)
   have hfr := hfr (by omega)
   have hlt := hlt (by omega)
   have hok := h.ck.stepOK (by omega)
   have ha := rafter_fn p c.mix (c.plan.getD c.at_.toNat nilS) h.ck.g.u
   have hq : (applyP p c.mix (c.plan.getD c.at_.toNat nilS)).1 = afterM p c.mix (c.plan.getD c.at_.toNat nilS) := apply_is (h.ck.valid hv) hok.1 hok.2
   rw [hq] at ha
   rw [forget_5 h5]
   clear h hv hso hk1 hk2 hk5 hsv hok
   refine startW (tm := [(0, _), (1, _), (2, _)]) Tryz.func22 rfl Tryz.ntmps22 rfl rfl rfl rfl ?_
   repeat' (first
 |(with_reducible refine K_ca 42 ?_); refine zC (hpd) ?_
 |(with_reducible refine K_ca 43 ?_); refine zC (hcp) ?_
 |(with_reducible refine K_ca 44 ?_); refine zC (hfr) ?_
 |(with_reducible refine K_ca 45 ?_); refine zC (ha) ?_
 |refine wA ?_
 |(refine wC ?_ ?_ <;> intro hc)
 |refine wB ?_ ?_
 |(with_reducible refine JL.block ?_)
 |(with_reducible refine F_at ?_); refine eW (vs := [(_, _), (_, _)]) Tryz.results22 ?_; (focus (repeat' (first | exact oA | refine oB ?_ | refine oC ?_ ?_ | fail)))
 |exact oM
 |fail)
   all_goals first | rfl | (exfalso; omega) | trace_state
  ·rw [forget_0 h12 h5]
   clear h hv hso hk1 hk2 hk5 hsv hi hfr
   refine startW (tm := [(0, _), (1, _), (2, _)]) Tryz.func22 rfl Tryz.ntmps22 rfl rfl rfl rfl ?_
   repeat' (first
 |(with_reducible refine K_ca 42 ?_); refine zC (hpd) ?_
 |(with_reducible refine K_ca 43 ?_); refine zC (hcp) ?_
 |refine wA ?_
 |(refine wC ?_ ?_ <;> intro hc)
 |refine wB ?_ ?_
 |(with_reducible refine JL.block ?_)
 |(with_reducible refine F_at ?_); refine eW (vs := [(_, _), (_, _)]) Tryz.results22 ?_; (focus (repeat' (first | exact oA | refine oB ?_ | refine oC ?_ ?_ | fail)))
 |exact oM
 |fail)
   all_goals first | rfl | (exfalso; omega) | trace_state
theorem rforget_fn (p : Prob) (rs : List Int) (c : CtlD) (n : Int) (h : SigK p rs c.plan c n) (hn : 0 ≤ n ∧ n ≤ 10000000) (hs : setErr p rs = 0) (hc : checkP p c.plan = true) (hl : c.plan.length ≤ 1000000) : FnSound Tryz.prog 23 [.val true (probC p), .val false [.d (.sl 1 (dInts rs))], .val true (ctlC c)] [] { vals := [(true, ctlC (forgetP p rs c)), (false, [.d (.v (.int .i64 0))])] } := by
 have hso := setErr_ok hs
 have hvp := vp_all hso.1
 have hrl := hso.2.1
 have hrd := h.b.rd
 have her := error_fn p rs c h.ck h.cr hc hs hl (by omega)
 have hr := h.ck.rng
 have hsv := h.ck.svc
 have hk1 := h.ck.ph1
 have hk2 := h.ck.ph2
 have hk5 := h.ck.ph5
 have hlt := fun b => h.ck.lt b
 have hi : (c.phase = 1 ∨ c.phase = 2) ∨ c.phase = 5 → 0 ≤ (c.plan.getD c.at_.toNat nilS).idx ∧ (c.plan.getD c.at_.toNat nilS).idx < p.vs.length := fun b => by
  have hk3 : ¬ (present c).kind = 3 := by
   rcases b with (b | b) | b
   ·rcases hk1 b with x | x <;> omega
   ·have := (hk2 (.inl b)).1; omega
   ·have := (hk5 b).1; omega
  have := hsv (by omega) hk3
  exact ⟨this.1, this.2.1⟩
 have hfr := fun b => first_fn rs (c.plan.getD c.at_.toNat nilS).idx b hso.2.2 (by omega)
 by_cases h12 : c.phase = 1 ∨ c.phase = 2
 ·have hi := hi (.inl h12)
  have hfr := hfr (by omega)
  have hlt := hlt (by omega)
  rw [forget_12 h12]
  clear h hso hk1 hk2 hk5 hsv
  refine startW (tm := [(0, _), (1, _), (2, _)]) Tryz.func23 rfl Tryz.ntmps23 rfl rfl rfl rfl ?_
  repeat' (first
 |(with_reducible refine K_ca 46 ?_); refine zC (her) ?_
 |(with_reducible refine K_ca 47 ?_); refine zC (hfr) ?_
 |refine wA ?_
 |(refine wC ?_ ?_ <;> intro hc)
 |refine wB ?_ ?_
 |(with_reducible refine JL.block ?_)
 |(with_reducible refine F_at ?_); refine eW (vs := [(_, _), (_, _)]) Tryz.results23 ?_; (focus (repeat' (first | exact oA | refine oB ?_ | refine oC ?_ ?_ | fail)))
 |exact oM
 |fail)
  all_goals first | rfl | (exfalso; omega) | trace_state
 ·by_cases h5 : c.phase = 5
  ·have hi := hi (.inr h5)
   have hfr := hfr (by omega)
   have hlt := hlt (by omega)
   have hst := h.ck.st (by omega)
   have hkk := (hk5 h5).1
   have ha := after_fn p c.mix (c.plan.getD c.at_.toNat nilS) h.ck.g.inn hst.1 ⟨hst.2.1, by have := hst.2.2; unfold present at this; omega⟩
   rw [forget_5 h5]
   clear h hso hk1 hk2 hk5 hsv hst
   refine startW (tm := [(0, _), (1, _), (2, _)]) Tryz.func23 rfl Tryz.ntmps23 rfl rfl rfl rfl ?_
   repeat' (first
 |(with_reducible refine K_ca 46 ?_); refine zC (her) ?_
 |(with_reducible refine K_ca 47 ?_); refine zC (hfr) ?_
 |(with_reducible refine K_ca 48 ?_); refine zC (ha) ?_
 |refine wA ?_
 |(refine wC ?_ ?_ <;> intro hc)
 |refine wB ?_ ?_
 |(with_reducible refine JL.block ?_)
 |(with_reducible refine F_at ?_); refine eW (vs := [(_, _), (_, _)]) Tryz.results23 ?_; (focus (repeat' (first | exact oA | refine oB ?_ | refine oC ?_ ?_ | fail)))
 |exact oM
 |fail)
   all_goals first | rfl | (exfalso; omega) | trace_state
  ·rw [forget_0 h12 h5]
   clear h hso hk1 hk2 hk5 hsv hi hfr
   refine startW (tm := [(0, _), (1, _), (2, _)]) Tryz.func23 rfl Tryz.ntmps23 rfl rfl rfl rfl ?_
   repeat' (first
 |(with_reducible refine K_ca 46 ?_); refine zC (her) ?_
 |refine wA ?_
 |(refine wC ?_ ?_ <;> intro hc)
 |refine wB ?_ ?_
 |(with_reducible refine JL.block ?_)
 |(with_reducible refine F_at ?_); refine eW (vs := [(_, _), (_, _)]) Tryz.results23 ?_; (focus (repeat' (first | exact oA | refine oB ?_ | refine oC ?_ ?_ | fail)))
 |exact oM
 |fail)
   all_goals first | rfl | (exfalso; omega) | trace_state
end Go.Proofs.YtbdjcgjdmhgnmaaGreat

namespace Go.Proofs.YtbdjcgjdmhgnmaaGreat
open Go Go.RowKit
set_option maxRecDepth 100000
set_option maxHeartbeats 8000000
set_option linter.unusedSimpArgs false
set_option linter.unusedVariables false
theorem ofNoC_fn (d : DraftD) (R ch : List Int) (hd : draftOK d) (h : ¬ (caseOK d = true ∧ ch.length ≤ 40)) : FnSound Tryz.prog 21 [.val true (caseC d R ch)] [] { vals := [(true, probC (ofP d)), (false, [.d (.sl 1 [])]), (true, ctlC nilCtl), (false, [.d (.v (.bool false))])] } := by
 cases ho : ofOK d with
 | false =>
  have hof := ofNo_fn d ho
  have e : ofP d = nilP := by unfold ofP; rw [ho]; rfl
  rw [e]
  refine startW (tm := [(0, _)]) Tryz.func21 rfl Tryz.ntmps21 rfl rfl rfl rfl ?_
  repeat' (first
 |(with_reducible refine rgn 11 1100 ?_ ?_); exact rfl
 |(with_reducible refine rgn 12 1200 ?_ ?_); exact rfl
 |(with_reducible refine rgn 13 1300 ?_ ?_); exact rfl
 |(with_reducible refine rgn 14 1400 ?_ ?_); exact rfl
 |(with_reducible refine rgn 10 1500 ?_ ?_); exact rfl
 |(with_reducible refine rgn 19 1900 ?_ ?_); exact rfl
 |(with_reducible refine rgn 18 2000 ?_ ?_); exact rfl
 |(with_reducible refine K_ca 38 ?_); refine zC (hof) ?_
 |refine wA ?_
 |(refine wC ?_ ?_ <;> intro hc)
 |refine wB ?_ ?_
 |(with_reducible refine JL.block ?_)
 |(with_reducible refine F_at ?_); refine eW (vs := [(_, _), (_, _), (_, _), (_, _)]) Tryz.results21 ?_; (focus (repeat' (first | exact oA | refine oB ?_ | refine oC ?_ ?_ | fail)))
 |exact oM
 |fail)
  all_goals first | rfl | (exfalso; omega) | trace_state
 | true =>
  have hof := of_fn d hd ho
  have hv := ofP_sound hd ho
  by_cases h40 : ch.length ≤ 40
  ·have hlf := lightOK_fn (ofP d) hv 120 (by omega)
   have h : ¬ caseOK d = true := fun b => h ⟨b, h40⟩
   unfold caseOK at h
   rw [ho, Bool.true_and] at h
   cases hli : lightP (ofP d) 120 with
   | false =>
    rw [hli] at hlf
    refine startW (tm := [(0, _)]) Tryz.func21 rfl Tryz.ntmps21 rfl rfl rfl rfl ?_
    repeat' (first
 |(with_reducible refine rgn 11 1100 ?_ ?_); exact rfl
 |(with_reducible refine rgn 12 1200 ?_ ?_); exact rfl
 |(with_reducible refine rgn 13 1300 ?_ ?_); exact rfl
 |(with_reducible refine rgn 14 1400 ?_ ?_); exact rfl
 |(with_reducible refine rgn 10 1500 ?_ ?_); exact rfl
 |(with_reducible refine rgn 19 1900 ?_ ?_); exact rfl
 |(with_reducible refine rgn 18 2000 ?_ ?_); exact rfl
 |(with_reducible refine K_ca 38 ?_); refine zC (hof) ?_
 |(with_reducible refine K_ca 39 ?_); refine zC (hlf) ?_
 |refine wA ?_
 |(refine wC ?_ ?_ <;> intro hc)
 |refine wB ?_ ?_
 |(with_reducible refine JL.block ?_)
 |(with_reducible refine F_at ?_); refine eW (vs := [(_, _), (_, _), (_, _), (_, _)]) Tryz.results21 ?_; (focus (repeat' (first | exact oA | refine oB ?_ | refine oC ?_ ?_ | fail)))
 |exact oM
 |fail)
    all_goals first | rfl | (exfalso; omega) | trace_state
   | true =>
    rw [hli] at hlf
    rw [hli, Bool.true_and, decide_eq_true_eq] at h
    have hff := findOK_fn (ofP d) hv
    refine startW (tm := [(0, _)]) Tryz.func21 rfl Tryz.ntmps21 rfl rfl rfl rfl ?_
    repeat' (first
 |(with_reducible refine rgn 11 1100 ?_ ?_); exact rfl
 |(with_reducible refine rgn 12 1200 ?_ ?_); exact rfl
 |(with_reducible refine rgn 13 1300 ?_ ?_); exact rfl
 |(with_reducible refine rgn 14 1400 ?_ ?_); exact rfl
 |(with_reducible refine rgn 10 1500 ?_ ?_); exact rfl
 |(with_reducible refine rgn 19 1900 ?_ ?_); exact rfl
 |(with_reducible refine rgn 18 2000 ?_ ?_); exact rfl
 |(with_reducible refine K_ca 38 ?_); refine zC (hof) ?_
 |(with_reducible refine K_ca 39 ?_); refine zC (hlf) ?_
 |(with_reducible refine K_ca 40 ?_); refine zC (hff) ?_
 |refine wA ?_
 |(refine wC ?_ ?_ <;> intro hc)
 |refine wB ?_ ?_
 |(with_reducible refine JL.block ?_)
 |(with_reducible refine F_at ?_); refine eW (vs := [(_, _), (_, _), (_, _), (_, _)]) Tryz.results21 ?_; (focus (repeat' (first | exact oA | refine oB ?_ | refine oC ?_ ?_ | fail)))
 |exact oM
 |fail)
    all_goals first | rfl | exact absurd hc h | (exfalso; omega) | trace_state
  ·clear h
   refine startW (tm := [(0, _)]) Tryz.func21 rfl Tryz.ntmps21 rfl rfl rfl rfl ?_
   repeat' (first
 |(with_reducible refine rgn 11 1100 ?_ ?_); exact rfl
 |(with_reducible refine rgn 12 1200 ?_ ?_); exact rfl
 |(with_reducible refine rgn 13 1300 ?_ ?_); exact rfl
 |(with_reducible refine rgn 14 1400 ?_ ?_); exact rfl
 |(with_reducible refine rgn 10 1500 ?_ ?_); exact rfl
 |(with_reducible refine rgn 19 1900 ?_ ?_); exact rfl
 |(with_reducible refine rgn 18 2000 ?_ ?_); exact rfl
 |(with_reducible refine K_ca 38 ?_); refine zC (hof) ?_
 |refine wA ?_
 |(refine wC ?_ ?_ <;> intro hc)
 |refine wB ?_ ?_
 |(with_reducible refine JL.block ?_)
 |(with_reducible refine F_at ?_); refine eW (vs := [(_, _), (_, _), (_, _), (_, _)]) Tryz.results21 ?_; (focus (repeat' (first | exact oA | refine oB ?_ | refine oC ?_ ?_ | fail)))
 |exact oM
 |fail)
   all_goals first | rfl | (exfalso; omega) | trace_state
def nowAt (d : DraftD) (R ch : List Int) (k : Nat) : CtlD := (pastAt (ofP d) (repsP R (ofP d).vs.length) (newP (ofP d) (repsP R (ofP d).vs.length) (findP (ofP d)).1).1 ch k).now
theorem now_k {d : DraftD} {R ch : List Int} (hd : draftOK d) (hR : u8s R) (hch : u8s ch) (h : caseOK d = true) : vpErr (ofP d) = 0 ∧ checkP (ofP d) (findP (ofP d)).1 = true ∧ (findP (ofP d)).1.length ≤ 20000 ∧ setErr (ofP d) (repsP R (ofP d).vs.length) = 0 ∧ ∀ k, k ≤ 100 → SigK (ofP d) (repsP R (ofP d).vs.length) (findP (ofP d)).1 (nowAt d R ch k) k := by
 unfold caseOK at h
 rw [Bool.and_eq_true, Bool.and_eq_true, decide_eq_true_eq] at h
 have hv := ofP_sound hd h.1
 obtain ⟨f1, f2, f3⟩ := find_check h.2.2
 have hs := reps_set hv hR
 obtain ⟨n1, n2, n3, n4⟩ := newP_k hs f1
 have n5 := newP_r hs f1
 have e : newP (ofP d) (repsP R (ofP d).vs.length) (findP (ofP d)).1 = (⟨(findP (ofP d)).1, 0, if (findP (ofP d)).1.length = 0 then 6 else 0, 0, 0, 0, startM (ofP d)⟩, 0) := by unfold newP; rw [if_neg (by simpa using hs), f1, if_neg (by decide)]
 have n6 : (newP (ofP d) (repsP R (ofP d).vs.length) (findP (ofP d)).1).1.replica = 0 := by rw [e]
 have n7 : (newP (ofP d) (repsP R (ofP d).vs.length) (findP (ofP d)).1).1.token = 0 := by rw [e]
 refine ⟨hv, f1, f3, hs, fun k hk => ?_⟩
 have := pastAt_k (ch := ch) n1 n5 ⟨n2, by omega, by omega, by omega⟩ n7 hs (by omega) hch k hk
 exact ⟨this.ck, this.cr, this.b⟩
theorem ofC_fn (d : DraftD) (R ch : List Int) (hd : draftOK d) (hR : u8s R) (hch : u8s ch) (h : caseOK d = true) (h40 : ch.length ≤ 40) : FnSound Tryz.prog 21 [.val true (caseC d R ch)] [] { vals := [(true, probC (ofP d)), (false, [.d (.sl 1 (dInts (repsP R (ofP d).vs.length)))]), (true, ctlC (nowAt d R ch ch.length)), (false, [.d (.v (.bool true))])] } := by
 obtain ⟨k0, k1, k2, k3, hk⟩ := now_k hd hR hch h
 unfold caseOK at h
 rw [Bool.and_eq_true, Bool.and_eq_true, decide_eq_true_eq] at h
 obtain ⟨ho, hli, hfi⟩ := h
 have hof := of_fn d hd ho
 have hvp := vp_all k0
 have hlf := lightOK_fn (ofP d) k0 120 (by omega)
 rw [hli] at hlf
 have hff := findOK_fn (ofP d) k0
 rw [hfi] at hff
 have hnf := new_fn (ofP d) (repsP R (ofP d).vs.length) (findP (ofP d)).1 k3 k1 (by omega)
 have hnfk : ∀ k : Nat, k = (ofP d).vs.length → FnSound Tryz.prog 29 [.val true (probC (ofP d)), .val false [.d (.sl 1 (dInts (repsP R k)))], .val false [.d (.sl 3 (dSteps (findP (ofP d)).1))]] [] { vals := [(true, ctlC (nowAt d R ch 0)), (false, [.d (.v (.int .i64 0))])] } := fun k e => by rw [e]; exact hnf
 have hu := u8_get hR
 have huc := u8_get hch
 have ht3 := fun k => tmod3 (hu k)
 have hrl := fun n => repsP_len (R := R) (n := n)
 have hus := fun (k : Nat) (hk' : k ≤ 40) => useful_fn (ofP d) (nowAt d R ch k) (ch.getD k 0) (hk k (by omega)).ck (by rw [(hk k (by omega)).b.plan]; omega) (huc k)
 have hnx : ∀ k j : Nat, k ≤ 40 → j = (ofP d).vs.length → FnSound Tryz.prog 41 [.val true (probC (ofP d)), .val false [.d (.sl 1 (dInts (repsP R j)))], .val true (ctlC (nowAt d R ch k)), .val true (sigC (usefulP (nowAt d R ch k) (ch.getD k 0)))] [] { vals := [(true, ctlC (nowAt d R ch (k + 1))), (false, [.d (.sl 10 (dActs (nextP (ofP d) (repsP R (ofP d).vs.length) (nowAt d R ch k) (usefulP (nowAt d R ch k) (ch.getD k 0))).2))])] } := fun k j hk' e => by
  have h1 := (hk k (by omega)).b
  have h2 := h1.rd
  have h3 := h1.rp
  rw [e]
  exact next_fn (ofP d) (repsP R (ofP d).vs.length) (nowAt d R ch k) (usefulP (nowAt d R ch k) (ch.getD k 0)) (hk k (by omega)).ck k3 (by rw [h1.plan]; omega) (by omega) (by omega)
 clear hk
 generalize nowAt d R ch = st at hus hnx hnfk
 refine startW (tm := [(0, _)]) Tryz.func21 rfl Tryz.ntmps21 rfl rfl rfl rfl ?_
 repeat' (first
 |(with_reducible refine rgn 11 1100 ?_ ?_); exact rfl
 |(with_reducible refine rgn 12 1200 ?_ ?_); exact rfl
 |(with_reducible refine rgn 13 1300 ?_ ?_); exact rfl
 |(with_reducible refine rgn 14 1400 ?_ ?_); exact rfl
 |(with_reducible refine rgn 10 1500 ?_ ?_); exact rfl
 |(with_reducible refine reg_at (id := 15) ?_); (try (refine JL.shutW 10 rfl rfl ?_)); (with_reducible refine rg ?_ ?_); exact rfl
 |(with_reducible refine rgn 19 1900 ?_ ?_); exact rfl
 |(with_reducible refine rgn 18 2000 ?_ ?_); exact rfl
 |(with_reducible refine K_ca 38 ?_); refine zC (hof) ?_
 |(with_reducible refine K_ca 39 ?_); refine zC (hlf) ?_
 |(with_reducible refine K_ca 40 ?_); refine zC (hff) ?_
 |(with_reducible refine K_ca 29 ?_); refine zC (hnfk k (by omega)) ?_
 |(with_reducible refine K_ca 20 ?_); refine zC (hus i (by omega)) ?_
 |(with_reducible refine K_ca 41 ?_); refine zC (hnx i k (by omega) (by omega)) ?_
 |(with_reducible refine blk_at (id := 0) ?_); (try (refine JL.zeroW 10 _ 3 1 rfl rfl ?_)); (refine JL.rekW 10 (1160, 951) rfl rfl rfl rfl ?_); ((with_reducible refine JL.loopW 0 999 (fun (k : Nat) tm => (11, .one false [.d (.v (.int .i64 ((k : Int))))]) :: (10, .one false [.own (1160, 951)]) :: tm) (fun (k : Nat) bo => ((1160, 951), some (.sl 3 1 ((dInts (repsP R k))))) :: bo) (fun (k : Nat) => k ≤ (ofP d).vs.length) (fun (k : Nat) => (ofP d).vs.length - k) (0) ?_ (fun k hk => have h1 := ht3 k; have h2 := hrl k; ?_) ?_); (focus (apply SubW [((1160, 951), _)] rfl ?_ ?_ rfl ?_; (repeat' (first | exact kA | refine kB ?_ | refine kC ?_ ?_ | exact kD | fail)))))
 |((with_reducible refine round_next (i := k) (k + 1) ?_ ?_ ?_); (focus (apply SubW [((1160, 951), _)] rfl ?_ ?_ rfl ?_; (repeat' (first | exact kA | refine kB ?_ | refine kC ?_ ?_ | exact kD | fail)))))
 |(with_reducible refine blk_at (id := 2) ?_); ((with_reducible refine JL.loopW 2 1799 (fun (i : Nat) tm => (14, .one false [.d (.v (.int .i64 ((i : Int))))]) :: tm) (fun (i : Nat) bo => ((448, 1600), some (.st 44 [.d (.sl 3 ((dSteps (st i).plan))), .d (.v (.int .i64 ((st i).at_))), .d (.v (.int .i64 ((st i).phase))), .d (.v (.int .i64 ((st i).replica))), .d (.v (.int .i64 ((st i).round))), .d (.v (.int .i64 ((st i).token))), .d (.sl 1 ((dInts (st i).mix.base))), .d (.sl 1 ((dInts (st i).mix.next))), .d (.sl 1 ((dSets (st i).mix.held)))])) :: bo) (fun (i : Nat) => i ≤ ch.length) (fun (i : Nat) => ch.length - i) (0) ?_ (fun i hi => ?_) ?_); (focus (apply SubW [] rfl ?_ ?_ rfl ?_; (repeat' (first | exact kA | refine kB ?_ | refine kC ?_ ?_ | exact kD | fail)))))
 |((with_reducible refine round_next (i := i) (i + 1) ?_ ?_ ?_); (focus (apply SubW [] rfl ?_ ?_ rfl ?_; (repeat' (first | exact kA | refine kB ?_ | refine kC ?_ ?_ | exact kD | fail)))))
 |refine wA ?_
 |(refine wC ?_ ?_ <;> intro hc)
 |refine wB ?_ ?_
 |(with_reducible refine JL.block ?_)
 |(with_reducible refine F_at ?_); refine eW (vs := [(_, _), (_, _), (_, _), (_, _)]) Tryz.results21 ?_; (focus (repeat' (first | exact oA | refine oB ?_ | refine oC ?_ ?_ | fail)))
 |exact oM
 |fail)
 all_goals first
  | rfl
  | (rw [repsP_y (by omega)]; done)
  | (rw [repsP_n (by omega)]; done)
  | (have e : k = (ofP d).vs.length := by omega
     rw [e]; done)
  | (have e : i = ch.length := by omega
     rw [e]; done)
  | trace_state
end Go.Proofs.YtbdjcgjdmhgnmaaGreat

