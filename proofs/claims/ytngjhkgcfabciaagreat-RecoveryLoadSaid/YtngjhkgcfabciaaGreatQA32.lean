/- Rules of runs and contracts of functions, for the claims of one seat. -/
import Derived.Test.YtngjhkgcfabciaaGreatQA12
import Derived.Test.YtngjhkgcfabciaaGreatQA15
import Derived.Test.YtngjhkgcfabciaaGreatQA28
import Derived.Test.YtngjhkgcfabciaaGreatQA29
import Derived.Test.YtngjhkgcfabciaaGreatQA30
import Derived.Test.YtngjhkgcfabciaaGreatQA31
namespace Go.Proofs.YtngjhkgcfabciaaGreat
open Go Go.RowKit
set_option maxRecDepth 100000
set_option maxHeartbeats 8000000
set_option linter.unusedSimpArgs false
set_option linter.unusedVariables false
theorem validK_fn (p : Prob) (rs : List Int) (c : CtlD) (h : CtlK p c) (hr : CtlR p rs c) (hck : checkP p c.plan = true) (hs : setErr p rs = 0) (hl : c.plan.length ≤ 1000000) (hrd : -1000000000 ≤ c.round ∧ c.round ≤ 1000000000) : FnSound Tryz.prog 54 [.val true (probC p), .val false [.d (.sl 1 (dInts rs))], .val true (ctlC c)] [] { vals := [(false, [.d (.v (.bool true))])] } := by
 have hv := hr.valid h hck hs
 have hg := h.g
 have hps := h.phs
 have hrng := h.rng
 have hfin := h.fin
 have h1 := h.ph1; have h2 := h.ph2; have h4 := h.ph4; have h5 := h.ph5
 suffices key : FnSound Tryz.prog 54 [.val true (probC p), .val false [.d (.sl 1 (dInts rs))], .val true (ctlC c)] [] { vals := [(false, [.d (.v (.bool (validP p rs c)))])] } by
  rw [hv] at key; exact key
 clear hv
 obtain ⟨pl, a, ph, rp, rd, tk, mx⟩ := c
 have hps : 0 ≤ ph ∧ ph ≤ 6 := hps
 have : ph = 0 ∨ ph = 1 ∨ ph = 2 ∨ ph = 3 ∨ ph = 4 ∨ ph = 5 ∨ ph = 6 := by omega
 rcases this with e | e | e | e | e | e | e <;> subst e
 ·exact valid0_fn p rs pl a rp rd tk mx hs hck hl hrng hfin hrd hg.few hg.u
 ·rcases h1 rfl with ⟨k, _⟩ | ⟨k, _⟩
  ·exact valid1a_fn p rs pl a rp rd tk mx hs hck hl hrng hfin k hrd hg.few hg.u
  ·exact valid1b_fn p rs pl a rp rd tk mx hs hck hl hrng hfin k hrd hg.few hg.u
 ·exact valid2_fn p rs pl a rp rd tk mx hs hck hl hrng hfin (h2 (.inl rfl)).1 hrd hg.few hg.u
 ·exact valid3_fn p rs pl a rp rd tk mx hs hck hl hrng hfin (h2 (.inr rfl)).1 hrd hg.few hg.u
 ·exact valid4_fn p rs pl a rp rd tk mx hs hck hl hrng hfin (h4 rfl).1 hrd hg.few hg.u
 ·exact valid5_fn p rs pl a rp rd tk mx hs hck hl hrng hfin (h5 rfl).1 hrd hg.few hg.u
 ·exact valid6_fn p rs pl a rp rd tk mx hs hck hl hrng hfin hrd hg.few hg.u
theorem error_fn (p : Prob) (rs : List Int) (c : CtlD) (h : CtlK p c) (hr : CtlR p rs c) (hck : checkP p c.plan = true) (hs : setErr p rs = 0) (hl : c.plan.length ≤ 1000000) (hrd : -1000000000 ≤ c.round ∧ c.round ≤ 1000000000) : FnSound Tryz.prog 27 [.val true (probC p), .val false [.d (.sl 1 (dInts rs))], .val true (ctlC c)] [] { vals := [(false, [.d (.v (.int .i64 0))])] } := by
 have hvf := validK_fn p rs c h hr hck hs hl hrd
 refine startW (tm := [(0, _), (1, _), (2, _)]) Tryz.func27 rfl Tryz.ntmps27 rfl rfl rfl rfl ?_
 repeat' (first
 |(with_reducible refine K_ca 46 ?_); refine zC (settingOK_fn hs) ?_
 |(with_reducible refine K_ca 54 ?_); refine zC (hvf) ?_
 |refine wA ?_
 |(refine wC ?_ ?_ <;> intro hc)
 |refine wB ?_ ?_
 |(with_reducible refine JL.block ?_)
 |(with_reducible refine F_at ?_); refine eW (vs := [(_, _)]) Tryz.results27 ?_; (focus (repeat' (first | exact oA | refine oB ?_ | refine oC ?_ ?_ | fail)))
 |exact oM
 |fail)
 all_goals first | rfl | trace_state
theorem step_fn (p : Prob) (rs : List Int) (c : CtlD) (s : SigD) (h : CtlK p c) (hr : CtlR p rs c) (hck : checkP p c.plan = true) (hs : setErr p rs = 0) (hl : c.plan.length ≤ 1000000) (hrd : -1000000000 ≤ c.round ∧ c.round ≤ 1000000000) (hrp : -1000000000 ≤ c.replica ∧ c.replica ≤ 1000000000) : FnSound Tryz.prog 12 [.val true (probC p), .val false [.d (.sl 1 (dInts rs))], .val true (ctlC c), .val true (sigC s)] [] { vals := [(true, ctlC (nextP p rs c s).1), (false, [.d (.sl 10 (dActs (nextP p rs c s).2))]), (false, [.d (.v (.int .i64 0))])] } := by
 have hef := error_fn p rs c h hr hck hs hl hrd
 have hnf := next_fn p rs c s h hs hl hrd hrp
 refine startW (tm := [(0, _), (1, _), (2, _), (3, _)]) Tryz.func12 rfl Tryz.ntmps12 rfl rfl rfl rfl ?_
 repeat' (first
 |(with_reducible refine K_ca 27 ?_); refine zC (hef) ?_
 |(with_reducible refine K_ca 25 ?_); refine zC (hnf) ?_
 |refine wA ?_
 |(refine wC ?_ ?_ <;> intro hc)
 |refine wB ?_ ?_
 |(with_reducible refine JL.block ?_)
 |(with_reducible refine F_at ?_); refine eW (vs := [(_, _), (_, _), (_, _)]) Tryz.results12 ?_; (focus (repeat' (first | exact oA | refine oB ?_ | refine oC ?_ ?_ | fail)))
 |exact oM
 |fail)
 all_goals first | rfl | trace_state
theorem useful_fn (p : Prob) (c : CtlD) (n : Int) (h : CtlK p c) (hl : c.plan.length ≤ 1000000) (hn : 0 ≤ n ∧ n < 256) : FnSound Tryz.prog 11 [.val true (ctlC c), .val false [.d (.v (.int .u8 n))]] [] { vals := [(true, sigC (usefulP c n))] } := by
 by_cases ht : c.token = 0
 ·exact useful0_fn c n hn ht
 ·exact useful1_fn p c n h hl hn ht
def repsP (R : List Int) (n : Nat) : List Int := (List.range n).map fun i => if i < R.length then 1 + (R.getD i 0).tmod 3 else 1
theorem repsP_len {R : List Int} {n : Nat} : (repsP R n).length = n := by simp [repsP]
theorem repsP_y {R : List Int} {n : Nat} (h : n < R.length) : repsP R (n + 1) = repsP R n ++ [1 + (R.getD n 0).tmod 3] := by
 unfold repsP; rw [List.range_succ, List.map_append]; simp [h]
theorem repsP_n {R : List Int} {n : Nat} (h : ¬ n < R.length) : repsP R (n + 1) = repsP R n ++ [1] := by
 unfold repsP; rw [List.range_succ, List.map_append]; simp [h]
theorem tmod3 {x : Int} (h : 0 ≤ x ∧ x < 256) : 0 ≤ x.tmod 3 ∧ x.tmod 3 ≤ 2 := by
 rw [Int.tmod_eq_emod_of_nonneg h.1]; omega
theorem repsP_rng {R : List Int} (hR : u8s R) {n k : Nat} (hk : k < n) : 1 ≤ (repsP R n).getD k 0 ∧ (repsP R n).getD k 0 ≤ 4 := by
 unfold repsP
 rw [List.getD_eq_getElem?_getD, List.getElem?_map, List.getElem?_range hk]
 show 1 ≤ (if k < R.length then 1 + (R.getD k 0).tmod 3 else 1) ∧ (if k < R.length then 1 + (R.getD k 0).tmod 3 else 1) ≤ 4
 split
 ·have := tmod3 (u8_get hR k); omega
 ·omega
theorem reps_set {p : Prob} {R : List Int} (h : vpErr p = 0) (hR : u8s R) : setErr p (repsP R p.vs.length) = 0 := setErr_yes (k := p.vs.length) h repsP_len (by rw [repsP_len]; exact Nat.le_refl _) (fun j hj => repsP_rng hR hj)
end Go.Proofs.YtngjhkgcfabciaaGreat

namespace Go.Proofs.YtngjhkgcfabciaaGreat
open Go Go.RowKit
set_option maxRecDepth 100000
set_option maxHeartbeats 8000000
set_option linter.unusedSimpArgs false
set_option linter.unusedVariables false
def caseOK (d : DraftD) : Bool := ofOK d && (lightP (ofP d) 120 && decide ((findP (ofP d)).2 = 0))
theorem ofNone_fn (d : DraftD) (R : List Int) (hd : draftOK d) (h : caseOK d = false) : FnSound Tryz.prog 10 [.val true [.d (.sl 1 (dSets d.vs)), .d (.sl 1 (dSets d.now)), .d (.sl 1 (dSets d.tgt)), .d (.sl 6 (dLinks d.links)), .d (.sl 1 (dSets R)), .zero]] [] { vals := [(true, probC (ofP d)), (false, [.d (.sl 1 [])]), (true, ctlC nilCtl), (false, [.d (.v (.bool false))])] } := by
 cases ho : ofOK d with
 | false =>
  have hof := ofNo_fn d ho
  have e : ofP d = nilP := by unfold ofP; rw [ho]; rfl
  rw [e]
  refine startW (tm := [(0, _)]) Tryz.func10 rfl Tryz.ntmps10 rfl rfl rfl rfl ?_
  repeat' (first
 |(with_reducible refine rgn 11 1100 ?_ ?_); exact rfl
 |(with_reducible refine rgn 12 1200 ?_ ?_); exact rfl
 |(with_reducible refine rgn 13 1300 ?_ ?_); exact rfl
 |(with_reducible refine rgn 14 1400 ?_ ?_); exact rfl
 |(with_reducible refine rgn 10 1500 ?_ ?_); exact rfl
 |(with_reducible refine rgn 19 1900 ?_ ?_); exact rfl
 |(with_reducible refine rgn 18 2000 ?_ ?_); exact rfl
 |(with_reducible refine K_ca 21 ?_); refine zC (hof) ?_
 |refine wA ?_
 |(refine wC ?_ ?_ <;> intro hc)
 |refine wB ?_ ?_
 |(with_reducible refine JL.block ?_)
 |(with_reducible refine F_at ?_); refine eW (vs := [(_, _), (_, _), (_, _), (_, _)]) Tryz.results10 ?_; (focus (repeat' (first | exact oA | refine oB ?_ | refine oC ?_ ?_ | fail)))
 |exact oM
 |fail)
  all_goals first | rfl | trace_state
 | true =>
  have hof := of_fn d hd ho
  have hv := ofP_sound hd ho
  have hlf := lightOK_fn (ofP d) hv 120 (by omega)
  unfold caseOK at h
  rw [ho, Bool.true_and] at h
  cases hli : lightP (ofP d) 120 with
  | false =>
   rw [hli] at hlf
   refine startW (tm := [(0, _)]) Tryz.func10 rfl Tryz.ntmps10 rfl rfl rfl rfl ?_
   repeat' (first
 |(with_reducible refine rgn 11 1100 ?_ ?_); exact rfl
 |(with_reducible refine rgn 12 1200 ?_ ?_); exact rfl
 |(with_reducible refine rgn 13 1300 ?_ ?_); exact rfl
 |(with_reducible refine rgn 14 1400 ?_ ?_); exact rfl
 |(with_reducible refine rgn 10 1500 ?_ ?_); exact rfl
 |(with_reducible refine rgn 19 1900 ?_ ?_); exact rfl
 |(with_reducible refine rgn 18 2000 ?_ ?_); exact rfl
 |(with_reducible refine K_ca 21 ?_); refine zC (hof) ?_
 |(with_reducible refine K_ca 22 ?_); refine zC (hlf) ?_
 |refine wA ?_
 |(refine wC ?_ ?_ <;> intro hc)
 |refine wB ?_ ?_
 |(with_reducible refine JL.block ?_)
 |(with_reducible refine F_at ?_); refine eW (vs := [(_, _), (_, _), (_, _), (_, _)]) Tryz.results10 ?_; (focus (repeat' (first | exact oA | refine oB ?_ | refine oC ?_ ?_ | fail)))
 |exact oM
 |fail)
   all_goals first | rfl | trace_state
  | true =>
   rw [hli] at hlf
   rw [hli, Bool.true_and, decide_eq_false_iff_not] at h
   have hff := findOK_fn (ofP d) hv
   refine startW (tm := [(0, _)]) Tryz.func10 rfl Tryz.ntmps10 rfl rfl rfl rfl ?_
   repeat' (first
 |(with_reducible refine rgn 11 1100 ?_ ?_); exact rfl
 |(with_reducible refine rgn 12 1200 ?_ ?_); exact rfl
 |(with_reducible refine rgn 13 1300 ?_ ?_); exact rfl
 |(with_reducible refine rgn 14 1400 ?_ ?_); exact rfl
 |(with_reducible refine rgn 10 1500 ?_ ?_); exact rfl
 |(with_reducible refine rgn 19 1900 ?_ ?_); exact rfl
 |(with_reducible refine rgn 18 2000 ?_ ?_); exact rfl
 |(with_reducible refine K_ca 21 ?_); refine zC (hof) ?_
 |(with_reducible refine K_ca 22 ?_); refine zC (hlf) ?_
 |(with_reducible refine K_ca 23 ?_); refine zC (hff) ?_
 |refine wA ?_
 |(refine wC ?_ ?_ <;> intro hc)
 |refine wB ?_ ?_
 |(with_reducible refine JL.block ?_)
 |(with_reducible refine F_at ?_); refine eW (vs := [(_, _), (_, _), (_, _), (_, _)]) Tryz.results10 ?_; (focus (repeat' (first | exact oA | refine oB ?_ | refine oC ?_ ?_ | fail)))
 |exact oM
 |fail)
   all_goals first | rfl | exact absurd hc h | trace_state
theorem ofCase_fn (d : DraftD) (R : List Int) (hd : draftOK d) (hR : u8s R) (h : caseOK d = true) : FnSound Tryz.prog 10 [.val true [.d (.sl 1 (dSets d.vs)), .d (.sl 1 (dSets d.now)), .d (.sl 1 (dSets d.tgt)), .d (.sl 6 (dLinks d.links)), .d (.sl 1 (dSets R)), .zero]] [] { vals := [(true, probC (ofP d)), (false, [.d (.sl 1 (dInts (repsP R (ofP d).vs.length)))]), (true, ctlC (newP (ofP d) (repsP R (ofP d).vs.length) (findP (ofP d)).1).1), (false, [.d (.v (.bool true))])] } := by
 unfold caseOK at h
 rw [Bool.and_eq_true, Bool.and_eq_true, decide_eq_true_eq] at h
 obtain ⟨ho, hli, hfi⟩ := h
 have hof := of_fn d hd ho
 have hv := ofP_sound hd ho
 have hvp := vp_all hv
 have hlf := lightOK_fn (ofP d) hv 120 (by omega)
 rw [hli] at hlf
 have hff := findOK_fn (ofP d) hv
 rw [hfi] at hff
 obtain ⟨f1, f2, f3⟩ := find_check hfi
 have hnf := new_fn (ofP d) (repsP R (ofP d).vs.length) (findP (ofP d)).1 (reps_set hv hR) f1 (by omega)
 have hnfk : ∀ k : Nat, k = (ofP d).vs.length → FnSound Tryz.prog 24 [.val true (probC (ofP d)), .val false [.d (.sl 1 (dInts (repsP R k)))], .val false [.d (.sl 3 (dSteps (findP (ofP d)).1))]] [] { vals := [(true, ctlC (newP (ofP d) (repsP R (ofP d).vs.length) (findP (ofP d)).1).1), (false, [.d (.v (.int .i64 0))])] } := fun k e => by rw [e]; exact hnf
 have hu := u8_get hR
 have ht3 := fun k => tmod3 (hu k)
 have hrl := fun n => repsP_len (R := R) (n := n)
 refine startW (tm := [(0, _)]) Tryz.func10 rfl Tryz.ntmps10 rfl rfl rfl rfl ?_
 repeat' (first
 |(with_reducible refine rgn 11 1100 ?_ ?_); exact rfl
 |(with_reducible refine rgn 12 1200 ?_ ?_); exact rfl
 |(with_reducible refine rgn 13 1300 ?_ ?_); exact rfl
 |(with_reducible refine rgn 14 1400 ?_ ?_); exact rfl
 |(with_reducible refine rgn 10 1500 ?_ ?_); exact rfl
 |(with_reducible refine reg_at (id := 15) ?_); (try (refine JL.shutW 10 rfl rfl ?_)); (with_reducible refine rg ?_ ?_); exact rfl
 |(with_reducible refine rgn 19 1900 ?_ ?_); exact rfl
 |(with_reducible refine rgn 18 2000 ?_ ?_); exact rfl
 |(with_reducible refine K_ca 21 ?_); refine zC (hof) ?_
 |(with_reducible refine K_ca 22 ?_); refine zC (hlf) ?_
 |(with_reducible refine K_ca 23 ?_); refine zC (hff) ?_
 |(with_reducible refine K_ca 24 ?_); refine zC (hnfk k (by omega)) ?_
 |(with_reducible refine blk_at (id := 0) ?_); (try (refine JL.zeroW 10 _ 3 1 rfl rfl ?_)); (refine JL.rekW 10 (1160, 951) rfl rfl rfl rfl ?_); ((with_reducible refine JL.loopW 0 999 (fun (k : Nat) tm => (11, .one false [.d (.v (.int .i64 ((k : Int))))]) :: (10, .one false [.own (1160, 951)]) :: tm) (fun (k : Nat) bo => ((1160, 951), some (.sl 3 1 ((dInts (repsP R k))))) :: bo) (fun (k : Nat) => k ≤ (ofP d).vs.length) (fun (k : Nat) => (ofP d).vs.length - k) (0) ?_ (fun k hk => have h1 := ht3 k; have h2 := hrl k; ?_) ?_); (focus (apply SubW [((1160, 951), _)] rfl ?_ ?_ rfl ?_; (repeat' (first | exact kA | refine kB ?_ | refine kC ?_ ?_ | exact kD | fail)))))
 |((with_reducible refine round_next (i := k) (k + 1) ?_ ?_ ?_); (focus (apply SubW [((1160, 951), _)] rfl ?_ ?_ rfl ?_; (repeat' (first | exact kA | refine kB ?_ | refine kC ?_ ?_ | exact kD | fail)))))
 |(with_reducible refine blk_at (id := 2) ?_); ((with_reducible refine JL.loopW 2 1799 (fun (z : Unit) tm => (14, .one false [.d (.v (.int .i64 (0)))]) :: tm) (fun (z : Unit) bo => bo) (fun (z : Unit) => True) (fun (z : Unit) => 0) (()) ?_ (fun z hz => ?_) ?_); (focus (apply SubW [] rfl ?_ ?_ rfl ?_; (repeat' (first | exact kA | refine kB ?_ | refine kC ?_ ?_ | exact kD | fail)))))
 |((with_reducible refine round_next (i := z) (()) ?_ ?_ ?_); (focus (apply SubW [] rfl ?_ ?_ rfl ?_; (repeat' (first | exact kA | refine kB ?_ | refine kC ?_ ?_ | exact kD | fail)))))
 |refine wA ?_
 |(refine wC ?_ ?_ <;> intro hc)
 |refine wB ?_ ?_
 |(with_reducible refine JL.block ?_)
 |(with_reducible refine F_at ?_); refine eW (vs := [(_, _), (_, _), (_, _), (_, _)]) Tryz.results10 ?_; (focus (repeat' (first | exact oA | refine oB ?_ | refine oC ?_ ?_ | fail)))
 |exact oM
 |fail)
 all_goals first
  | rfl
  | exact trivial
  | (rw [repsP_y (by omega)]; done)
  | (rw [repsP_n (by omega)]; done)
  | (have e : k = (ofP d).vs.length := by omega
     rw [e]; done)
  | trace_state
end Go.Proofs.YtngjhkgcfabciaaGreat

namespace Go.Proofs.YtngjhkgcfabciaaGreat
open Go Go.RowKit
set_option linter.unusedSimpArgs false
set_option linter.unusedVariables false
def actEnts : List ActD → List EntD
 | [] => []
 | a :: r => (if a.kind = 1 then [a.ent] else []) ++ actEnts r
theorem actEnts_snoc : ∀ (l : List ActD) (a : ActD), actEnts (l ++ [a]) = actEnts l ++ (if a.kind = 1 then [a.ent] else [])
 | [], a => by simp [actEnts]
 | b :: l, a => by simp only [List.cons_append, actEnts, actEnts_snoc l a, List.append_assoc]
theorem actEnts_len : ∀ l : List ActD, (actEnts l).length ≤ l.length
 | [] => Nat.le_refl _
 | a :: l => by
  have := actEnts_len l
  unfold actEnts
  rw [List.length_append]
  split <;> simp <;> omega
theorem takeA_snoc {l : List ActD} {k : Nat} (h : k < l.length) : l.take (k + 1) = l.take k ++ [l.getD k nilA] := (take_snoc h).symm
theorem actEnts_y {l : List ActD} {k : Nat} (h : k < l.length) (hk : (l.getD k nilA).kind = 1) : actEnts (l.take (k + 1)) = actEnts (l.take k) ++ [(l.getD k nilA).ent] := by
 rw [takeA_snoc h, actEnts_snoc, if_pos hk]
theorem actEnts_n {l : List ActD} {k : Nat} (h : k < l.length) (hk : ¬ (l.getD k nilA).kind = 1) : actEnts (l.take (k + 1)) = actEnts (l.take k) := by
 rw [takeA_snoc h, actEnts_snoc, if_neg hk, List.append_nil]
structure PastD where
 now : CtlD
 ents : List EntD
 sts : List CtlD
 cnts : List Int
def leaseE (t : Int) : EntD := ⟨5, t, 0, ByteArray.empty⟩
def leaseL (a b : CtlD) : List EntD := if a.token < b.token then [leaseE b.token] else []
def pastN (p : Prob) (rs : List Int) (y : PastD) (n : Int) : CtlD × List ActD := nextP p rs y.now (usefulP y.now n)
def pastStep (p : Prob) (rs : List Int) (y : PastD) (n : Int) : PastD :=
 ⟨(pastN p rs y n).1, y.ents ++ leaseL y.now (pastN p rs y n).1 ++ actEnts (pastN p rs y n).2, y.sts ++ [(pastN p rs y n).1], y.cnts ++ [((y.ents ++ leaseL y.now (pastN p rs y n).1 ++ actEnts (pastN p rs y n).2).length : Int)]⟩
def pastAt (p : Prob) (rs : List Int) (c0 : CtlD) (ch : List Int) : Nat → PastD
 | 0 => ⟨c0, [], [c0], [0]⟩
 | k + 1 => pastStep p rs (pastAt p rs c0 ch k) (ch.getD k 0)
theorem repeatP_le (c : CtlD) : (repeatP c).length ≤ 1 := by
 unfold repeatP
 split
 ·simp
 ·split
  ·simp
  ·split <;> simp
theorem next_len {p : Prob} {rs : List Int} {c : CtlD} {s : SigD} : (nextP p rs c s).2.length ≤ 2 := by
 have ht : ∀ c, (tickP p rs c).2.length ≤ 2 := fun c => by
  unfold tickP
  split
  ·have := repeatP_le c; show (repeatP c).length ≤ 2; omega
  ·have := repeatP_le (beginC p rs c)
   show (_ :: repeatP (beginC p rs c)).length ≤ 2
   simp; omega
 unfold nextP
 split
 ·split
  ·simp
  ·exact ht _
 ·split
  ·simp
  ·split
   ·simp
   ·split
    ·exact ht _
    ·split
     ·unfold ackP
      split
      ·simp
      ·split
       ·simp
       ·split
        ·have := repeatP_le { c with phase := 2 }; show (repeatP { c with phase := 2 }).length ≤ 2; omega
        ·split
         ·simp
         ·have := repeatP_le { c with replica := w64 (c.replica + 1) }; show (repeatP { c with replica := w64 (c.replica + 1) }).length ≤ 2; omega
     ·split
      ·split
       ·simp
       ·have := repeatP_le { bump c with phase := 3 }
        show (_ :: repeatP { bump c with phase := 3 }).length ≤ 2
        simp; omega
      ·split
       ·simp
       ·split <;> simp
theorem useful_tk {c : CtlD} {n : Int} (hn : 0 ≤ n ∧ n < 256) (ht : 0 ≤ c.token ∧ c.token ≤ 1000000000) : 0 ≤ (usefulP c n).token ∧ (usefulP c n).token ≤ c.token + 8 := by
 have d1 : 0 ≤ n.tdiv 32 ∧ n.tdiv 32 ≤ 7 := by rw [Int.tdiv_eq_ediv_of_nonneg hn.1]; omega
 have d2 : 0 ≤ n.tdiv 128 ∧ n.tdiv 128 ≤ 1 := by rw [Int.tdiv_eq_ediv_of_nonneg hn.1]; omega
 have w : w64 (c.token + n.tdiv 128) = c.token + n.tdiv 128 := w64_is (by omega)
 unfold usefulP
 split
 ·show 0 ≤ 1 + n.tdiv 32 ∧ 1 + n.tdiv 32 ≤ c.token + 8; omega
 ·show 0 ≤ (if n.tmod 16 = 12 then sig 3 else _ : SigD).token ∧ (if n.tmod 16 = 12 then sig 3 else _ : SigD).token ≤ c.token + 8
  (repeat' split) <;> first
   | (show (0 : Int) ≤ 0 ∧ (0 : Int) ≤ c.token + 8; omega)
   | (show 0 ≤ w64 (c.token + n.tdiv 128) ∧ w64 (c.token + n.tdiv 128) ≤ c.token + 8; rw [w]; omega)
theorem next_tk {p : Prob} {rs : List Int} {c : CtlD} {s : SigD} : (nextP p rs c s).1.token = c.token ∨ (nextP p rs c s).1.token = 0 ∨ (nextP p rs c s).1.token = s.token := by
 have ht : ∀ c, (tickP p rs c).1.token = c.token := fun c => by unfold tickP; split <;> rfl
 unfold nextP
 split
 ·split
  ·exact .inl rfl
  ·exact .inr (.inr (ht _))
 ·split
  ·exact .inl rfl
  ·split
   ·exact .inr (.inl rfl)
   ·split
    ·exact .inl (ht _)
    ·split
     ·unfold ackP
      (repeat' split) <;> exact .inl rfl
     ·(repeat' split) <;> exact .inl rfl
structure PastK (p : Prob) (rs : List Int) (l : List StepD) (y : PastD) (k : Nat) : Prop where
 ck : CtlK p y.now
 cr : CtlR p rs y.now
 b : CtlB y.now l k
 tk : y.now.token ≤ 10 * k
 en : y.ents.length ≤ 3 * k
 sl : y.sts.length = k + 1
 cl : y.cnts.length = k + 1
theorem leaseL_le (a b : CtlD) : (leaseL a b).length ≤ 1 := by unfold leaseL; split <;> simp
theorem PastK.step {p : Prob} {rs : List Int} {l : List StepD} {y : PastD} {k : Nat} {n : Int} (h : PastK p rs l y k) (hk : k ≤ 100) (hs : setErr p rs = 0) (hl : l.length ≤ 1000000) (hn : 0 ≤ n ∧ n < 256) : PastK p rs l (pastStep p rs y n) (k + 1) := by
 have hso := setErr_ok hs
 have hvp := vp_all hso.1
 have hb := h.b
 have hrd := hb.rd; have hrp := hb.rp; have htk := hb.tk; have ht2 := h.tk
 have hu := useful_tk (c := y.now) hn ⟨htk, by omega⟩
 have hpl : y.now.plan.length ≤ 1000000 := by rw [hb.plan]; exact hl
 have hnl := next_len (p := p) (rs := rs) (c := y.now) (s := usefulP y.now n)
 have hal := actEnts_len (nextP p rs y.now (usefulP y.now n)).2
 have hll := leaseL_le y.now (nextP p rs y.now (usefulP y.now n)).1
 refine ⟨h.ck.next hpl, h.cr.next h.ck hs hpl (by omega) (by omega) hu.1, ?_, ?_, ?_, ?_, ?_⟩
 ·have := hb.next (p := p) (rs := rs) (s := usefulP y.now n) (by omega) hso.2.2 (by omega) hu.1
  exact this.mono (by omega)
 ·have := next_tk (p := p) (rs := rs) (c := y.now) (s := usefulP y.now n)
  show (nextP p rs y.now (usefulP y.now n)).1.token ≤ 10 * ((k + 1 : Nat) : Int)
  omega
 ·have := h.en
  show (y.ents ++ leaseL y.now (nextP p rs y.now (usefulP y.now n)).1 ++ actEnts (nextP p rs y.now (usefulP y.now n)).2).length ≤ _
  rw [List.length_append, List.length_append]
  omega
 ·have := h.sl
  show (y.sts ++ [_]).length = _
  rw [List.length_append]; simp; omega
 ·have := h.cl
  show (y.cnts ++ [_]).length = _
  rw [List.length_append]; simp; omega
theorem pastAt_k {p : Prob} {rs : List Int} {l : List StepD} {c0 : CtlD} {ch : List Int} (h0 : CtlK p c0) (h1 : CtlR p rs c0) (h2 : CtlB c0 l 0) (h3 : c0.token = 0) (hs : setErr p rs = 0) (hl : l.length ≤ 1000000) (hch : u8s ch) : ∀ k, k ≤ 100 → PastK p rs l (pastAt p rs c0 ch k) k
 | 0, _ => ⟨h0, h1, h2, by show c0.token ≤ _; omega, by simp [pastAt], by simp [pastAt], by simp [pastAt]⟩
 | k + 1, hk => (pastAt_k h0 h1 h2 h3 hs hl hch k (by omega)).step (by omega) hs hl (u8_get hch k)
end Go.Proofs.YtngjhkgcfabciaaGreat

