/- Rules of runs and contracts of functions, for the claims of one seat. -/
import Derived.Test.YtdpeoolildjohaaGreatDoorQA14
import Derived.Test.YtdpeoolildjohaaGreatDoorQA25
import Derived.Test.YtdpeoolildjohaaGreatDoorQA32
import Derived.Test.YtdpeoolildjohaaGreatDoorTA34
import Derived.Test.YtdpeoolildjohaaGreatDoorTA35
namespace Go.Proofs.YtdpeoolildjohaaGreatDoor
open Go Go.RowKit
set_option maxRecDepth 100000
set_option maxHeartbeats 8000000
set_option linter.unusedSimpArgs false
set_option linter.unusedVariables false
theorem validK_fn (p : Prob) (rs : List Int) (c : CtlD) (h : CtlK p c) (hr : CtlR p rs c) (hck : checkP p c.plan = true) (hs : setErr p rs = 0) (hl : c.plan.length ≤ 1000000) (hrd : -1000000000 ≤ c.round ∧ c.round ≤ 1000000000) : FnSound Tryz.prog 63 [.val true (probC p), .val false [.d (.sl 1 (dInts rs))], .val true (ctlC c)] [] { vals := [(false, [.d (.v (.bool true))])] } := by
 have hv := hr.valid h hck hs
 have hg := h.g
 have hps := h.phs
 have hrng := h.rng
 have hfin := h.fin
 have h1 := h.ph1; have h2 := h.ph2; have h4 := h.ph4; have h5 := h.ph5
 suffices key : FnSound Tryz.prog 63 [.val true (probC p), .val false [.d (.sl 1 (dInts rs))], .val true (ctlC c)] [] { vals := [(false, [.d (.v (.bool (validP p rs c)))])] } by
  rw [hv] at key; exact key
 clear hv
 obtain ⟨pl, a, ph, rp, rd, tk, mx⟩ := c
 have hps : 0 ≤ ph ∧ ph ≤ 6 := hps
 have : ph = 0 ∨ ph = 1 ∨ ph = 2 ∨ ph = 3 ∨ ph = 4 ∨ ph = 5 ∨ ph = 6 := by omega
 rcases this with e | e | e | e | e | e | e <;> subst e
 ·exact valid0_fn p rs pl a rp rd tk mx hs hck hl hrng hfin hrd hg.few hg.u
 ·rcases h1 rfl with ⟨k, _⟩ | ⟨k, _⟩
  ·exact valid1a_fn p rs pl a rp rd tk mx hs hck hl hrng hfin k hrd hg.few hg.u
  ·exact valid1b_fn p rs pl a rp rd tk mx hs hck hl hrng hfin k hrd hg.few hg.u
 ·exact valid2_fn p rs pl a rp rd tk mx hs hck hl hrng hfin (h2 (.inl rfl)).1 hrd hg.few hg.u
 ·exact valid3_fn p rs pl a rp rd tk mx hs hck hl hrng hfin (h2 (.inr rfl)).1 hrd hg.few hg.u
 ·exact valid4_fn p rs pl a rp rd tk mx hs hck hl hrng hfin (h4 rfl).1 hrd hg.few hg.u
 ·exact valid5_fn p rs pl a rp rd tk mx hs hck hl hrng hfin (h5 rfl).1 hrd hg.few hg.u
 ·exact valid6_fn p rs pl a rp rd tk mx hs hck hl hrng hfin hrd hg.few hg.u
theorem error_fn (p : Prob) (rs : List Int) (c : CtlD) (h : CtlK p c) (hr : CtlR p rs c) (hck : checkP p c.plan = true) (hs : setErr p rs = 0) (hl : c.plan.length ≤ 1000000) (hrd : -1000000000 ≤ c.round ∧ c.round ≤ 1000000000) : FnSound Tryz.prog 26 [.val true (probC p), .val false [.d (.sl 1 (dInts rs))], .val true (ctlC c)] [] { vals := [(false, [.d (.v (.int .i64 0))])] } := by
 have hvf := validK_fn p rs c h hr hck hs hl hrd
 refine startW (tm := [(0, _), (1, _), (2, _)]) Tryz.func26 rfl Tryz.ntmps26 rfl rfl rfl rfl ?_
 repeat' (first
 |(with_reducible refine K_ca 48 ?_); refine zC (settingOK_fn hs) ?_
 |(with_reducible refine K_ca 63 ?_); refine zC (hvf) ?_
 |refine wA ?_
 |(refine wC ?_ ?_ <;> intro hc)
 |refine wB ?_ ?_
 |(with_reducible refine JL.block ?_)
 |(with_reducible refine F_at ?_); refine eW (vs := [(_, _)]) Tryz.results26 ?_; (focus (repeat' (first | exact oA | refine oB ?_ | refine oC ?_ ?_ | fail)))
 |exact oM
 |fail)
 all_goals first | rfl | trace_state
theorem step_fn (p : Prob) (rs : List Int) (c : CtlD) (s : SigD) (h : CtlK p c) (hr : CtlR p rs c) (hck : checkP p c.plan = true) (hs : setErr p rs = 0) (hl : c.plan.length ≤ 1000000) (hrd : -1000000000 ≤ c.round ∧ c.round ≤ 1000000000) (hrp : -1000000000 ≤ c.replica ∧ c.replica ≤ 1000000000) : FnSound Tryz.prog 32 [.val true (probC p), .val false [.d (.sl 1 (dInts rs))], .val true (ctlC c), .val true (sigC s)] [] { vals := [(true, ctlC (nextP p rs c s).1), (false, [.d (.sl 10 (dActs (nextP p rs c s).2))]), (false, [.d (.v (.int .i64 0))])] } := by
 have hef := error_fn p rs c h hr hck hs hl hrd
 have hnf := next_fn p rs c s h hs hl hrd hrp
 refine startW (tm := [(0, _), (1, _), (2, _), (3, _)]) Tryz.func32 rfl Tryz.ntmps32 rfl rfl rfl rfl ?_
 repeat' (first
 |(with_reducible refine K_ca 26 ?_); refine zC (hef) ?_
 |(with_reducible refine K_ca 58 ?_); refine zC (hnf) ?_
 |refine wA ?_
 |(refine wC ?_ ?_ <;> intro hc)
 |refine wB ?_ ?_
 |(with_reducible refine JL.block ?_)
 |(with_reducible refine F_at ?_); refine eW (vs := [(_, _), (_, _), (_, _)]) Tryz.results32 ?_; (focus (repeat' (first | exact oA | refine oB ?_ | refine oC ?_ ?_ | fail)))
 |exact oM
 |fail)
 all_goals first | rfl | trace_state
theorem useful_fn (p : Prob) (c : CtlD) (n : Int) (h : CtlK p c) (hl : c.plan.length ≤ 1000000) (hn : 0 ≤ n ∧ n < 256) : FnSound Tryz.prog 25 [.val true (ctlC c), .val false [.d (.v (.int .u8 n))]] [] { vals := [(true, sigC (usefulP c n))] } := by
 by_cases ht : c.token = 0
 ·exact useful0_fn c n hn ht
 ·exact useful1_fn p c n h hl hn ht
def repsP (R : List Int) (n : Nat) : List Int := (List.range n).map fun i => if i < R.length then 1 + (R.getD i 0).tmod 3 else 1
theorem repsP_len {R : List Int} {n : Nat} : (repsP R n).length = n := by simp [repsP]
theorem repsP_y {R : List Int} {n : Nat} (h : n < R.length) : repsP R (n + 1) = repsP R n ++ [1 + (R.getD n 0).tmod 3] := by
 unfold repsP; rw [List.range_succ, List.map_append]; simp [h]
theorem repsP_n {R : List Int} {n : Nat} (h : ¬ n < R.length) : repsP R (n + 1) = repsP R n ++ [1] := by
 unfold repsP; rw [List.range_succ, List.map_append]; simp [h]
theorem tmod3 {x : Int} (h : 0 ≤ x ∧ x < 256) : 0 ≤ x.tmod 3 ∧ x.tmod 3 ≤ 2 := by
 rw [Int.tmod_eq_emod_of_nonneg h.1]; omega
theorem repsP_rng {R : List Int} (hR : u8s R) {n k : Nat} (hk : k < n) : 1 ≤ (repsP R n).getD k 0 ∧ (repsP R n).getD k 0 ≤ 4 := by
 unfold repsP
 rw [List.getD_eq_getElem?_getD, List.getElem?_map, List.getElem?_range hk]
 show 1 ≤ (if k < R.length then 1 + (R.getD k 0).tmod 3 else 1) ∧ (if k < R.length then 1 + (R.getD k 0).tmod 3 else 1) ≤ 4
 split
 ·have := tmod3 (u8_get hR k); omega
 ·omega
theorem reps_set {p : Prob} {R : List Int} (h : vpErr p = 0) (hR : u8s R) : setErr p (repsP R p.vs.length) = 0 := setErr_yes (k := p.vs.length) h repsP_len (by rw [repsP_len]; exact Nat.le_refl _) (fun j hj => repsP_rng hR hj)
end Go.Proofs.YtdpeoolildjohaaGreatDoor

namespace Go.Proofs.YtdpeoolildjohaaGreatDoor
open Go Go.RowKit
set_option maxRecDepth 100000
set_option maxHeartbeats 8000000
set_option linter.unusedSimpArgs false
set_option linter.unusedVariables false
def caseOK (d : DraftD) : Bool := ofOK d && (lightP (ofP d) 120 && decide ((findP (ofP d)).2 = 0))
end Go.Proofs.YtdpeoolildjohaaGreatDoor

