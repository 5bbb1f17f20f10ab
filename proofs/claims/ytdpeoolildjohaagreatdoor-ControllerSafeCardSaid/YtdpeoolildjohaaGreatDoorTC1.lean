/- Rules of runs and contracts of functions, for the claims of one seat. -/
import Derived.Test.YtdpeoolildjohaaGreatDoorQA14
import Derived.Test.YtdpeoolildjohaaGreatDoorQA27
import Derived.Test.YtdpeoolildjohaaGreatDoorTA38
namespace Go.Proofs.YtdpeoolildjohaaGreatDoor
open Go Go.RowKit
set_option maxRecDepth 100000
set_option maxHeartbeats 8000000
set_option linter.unusedSimpArgs false
set_option linter.unusedVariables false
theorem ofNoC_fn (d : DraftD) (R ch : List Int) (hd : draftOK d) (h : ¬ (caseOK d = true ∧ ch.length ≤ 40)) : FnSound Tryz.prog 19 [.val true (caseC d R ch)] [] { vals := [(true, probC (ofP d)), (false, [.d (.sl 1 [])]), (true, ctlC nilCtl), (false, [.d (.v (.bool false))])] } := by
 cases ho : ofOK d with
 | false =>
  have hof := ofNo_fn d ho
  have e : ofP d = nilP := by unfold ofP; rw [ho]; rfl
  rw [e]
  refine startW (tm := [(0, _)]) Tryz.func19 rfl Tryz.ntmps19 rfl rfl rfl rfl ?_
  repeat' (first
 |(with_reducible refine rgn 11 1100 ?_ ?_); exact rfl
 |(with_reducible refine rgn 12 1200 ?_ ?_); exact rfl
 |(with_reducible refine rgn 13 1300 ?_ ?_); exact rfl
 |(with_reducible refine rgn 14 1400 ?_ ?_); exact rfl
 |(with_reducible refine rgn 10 1500 ?_ ?_); exact rfl
 |(with_reducible refine rgn 19 1900 ?_ ?_); exact rfl
 |(with_reducible refine rgn 18 2000 ?_ ?_); exact rfl
 |(with_reducible refine K_ca 10 ?_); refine zC (hof) ?_
 |refine wA ?_
 |(refine wC ?_ ?_ <;> intro hc)
 |refine wB ?_ ?_
 |(with_reducible refine JL.block ?_)
 |(with_reducible refine F_at ?_); refine eW (vs := [(_, _), (_, _), (_, _), (_, _)]) Tryz.results19 ?_; (focus (repeat' (first | exact oA | refine oB ?_ | refine oC ?_ ?_ | fail)))
 |exact oM
 |fail)
  all_goals first | rfl | (exfalso; omega) | trace_state
 | true =>
  have hof := of_fn d hd ho
  have hv := ofP_sound hd ho
  by_cases h40 : ch.length ≤ 40
  ·have hlf := lightOK_fn (ofP d) hv 120 (by omega)
   have h : ¬ caseOK d = true := fun b => h ⟨b, h40⟩
   unfold caseOK at h
   rw [ho, Bool.true_and] at h
   cases hli : lightP (ofP d) 120 with
   | false =>
    rw [hli] at hlf
    refine startW (tm := [(0, _)]) Tryz.func19 rfl Tryz.ntmps19 rfl rfl rfl rfl ?_
    repeat' (first
 |(with_reducible refine rgn 11 1100 ?_ ?_); exact rfl
 |(with_reducible refine rgn 12 1200 ?_ ?_); exact rfl
 |(with_reducible refine rgn 13 1300 ?_ ?_); exact rfl
 |(with_reducible refine rgn 14 1400 ?_ ?_); exact rfl
 |(with_reducible refine rgn 10 1500 ?_ ?_); exact rfl
 |(with_reducible refine rgn 19 1900 ?_ ?_); exact rfl
 |(with_reducible refine rgn 18 2000 ?_ ?_); exact rfl
 |(with_reducible refine K_ca 10 ?_); refine zC (hof) ?_
 |(with_reducible refine K_ca 12 ?_); refine zC (hlf) ?_
 |refine wA ?_
 |(refine wC ?_ ?_ <;> intro hc)
 |refine wB ?_ ?_
 |(with_reducible refine JL.block ?_)
 |(with_reducible refine F_at ?_); refine eW (vs := [(_, _), (_, _), (_, _), (_, _)]) Tryz.results19 ?_; (focus (repeat' (first | exact oA | refine oB ?_ | refine oC ?_ ?_ | fail)))
 |exact oM
 |fail)
    all_goals first | rfl | (exfalso; omega) | trace_state
   | true =>
    rw [hli] at hlf
    rw [hli, Bool.true_and, decide_eq_true_eq] at h
    have hff := findOK_fn (ofP d) hv
    refine startW (tm := [(0, _)]) Tryz.func19 rfl Tryz.ntmps19 rfl rfl rfl rfl ?_
    repeat' (first
 |(with_reducible refine rgn 11 1100 ?_ ?_); exact rfl
 |(with_reducible refine rgn 12 1200 ?_ ?_); exact rfl
 |(with_reducible refine rgn 13 1300 ?_ ?_); exact rfl
 |(with_reducible refine rgn 14 1400 ?_ ?_); exact rfl
 |(with_reducible refine rgn 10 1500 ?_ ?_); exact rfl
 |(with_reducible refine rgn 19 1900 ?_ ?_); exact rfl
 |(with_reducible refine rgn 18 2000 ?_ ?_); exact rfl
 |(with_reducible refine K_ca 10 ?_); refine zC (hof) ?_
 |(with_reducible refine K_ca 12 ?_); refine zC (hlf) ?_
 |(with_reducible refine K_ca 57 ?_); refine zC (hff) ?_
 |refine wA ?_
 |(refine wC ?_ ?_ <;> intro hc)
 |refine wB ?_ ?_
 |(with_reducible refine JL.block ?_)
 |(with_reducible refine F_at ?_); refine eW (vs := [(_, _), (_, _), (_, _), (_, _)]) Tryz.results19 ?_; (focus (repeat' (first | exact oA | refine oB ?_ | refine oC ?_ ?_ | fail)))
 |exact oM
 |fail)
    all_goals first | rfl | exact absurd hc h | (exfalso; omega) | trace_state
  ·clear h
   refine startW (tm := [(0, _)]) Tryz.func19 rfl Tryz.ntmps19 rfl rfl rfl rfl ?_
   repeat' (first
 |(with_reducible refine rgn 11 1100 ?_ ?_); exact rfl
 |(with_reducible refine rgn 12 1200 ?_ ?_); exact rfl
 |(with_reducible refine rgn 13 1300 ?_ ?_); exact rfl
 |(with_reducible refine rgn 14 1400 ?_ ?_); exact rfl
 |(with_reducible refine rgn 10 1500 ?_ ?_); exact rfl
 |(with_reducible refine rgn 19 1900 ?_ ?_); exact rfl
 |(with_reducible refine rgn 18 2000 ?_ ?_); exact rfl
 |(with_reducible refine K_ca 10 ?_); refine zC (hof) ?_
 |refine wA ?_
 |(refine wC ?_ ?_ <;> intro hc)
 |refine wB ?_ ?_
 |(with_reducible refine JL.block ?_)
 |(with_reducible refine F_at ?_); refine eW (vs := [(_, _), (_, _), (_, _), (_, _)]) Tryz.results19 ?_; (focus (repeat' (first | exact oA | refine oB ?_ | refine oC ?_ ?_ | fail)))
 |exact oM
 |fail)
   all_goals first | rfl | (exfalso; omega) | trace_state
def nowAt (d : DraftD) (R ch : List Int) (k : Nat) : CtlD := (pastAt (ofP d) (repsP R (ofP d).vs.length) (newP (ofP d) (repsP R (ofP d).vs.length) (findP (ofP d)).1).1 ch k).now
theorem now_k {d : DraftD} {R ch : List Int} (hd : draftOK d) (hR : u8s R) (hch : u8s ch) (h : caseOK d = true) : vpErr (ofP d) = 0 ∧ checkP (ofP d) (findP (ofP d)).1 = true ∧ (findP (ofP d)).1.length ≤ 20000 ∧ setErr (ofP d) (repsP R (ofP d).vs.length) = 0 ∧ ∀ k, k ≤ 100 → SigK (ofP d) (repsP R (ofP d).vs.length) (findP (ofP d)).1 (nowAt d R ch k) k := by
 unfold caseOK at h
 rw [Bool.and_eq_true, Bool.and_eq_true, decide_eq_true_eq] at h
 have hv := ofP_sound hd h.1
 obtain ⟨f1, f2, f3⟩ := find_check h.2.2
 have hs := reps_set hv hR
 obtain ⟨n1, n2, n3, n4⟩ := newP_k hs f1
 have n5 := newP_r hs f1
 have e : newP (ofP d) (repsP R (ofP d).vs.length) (findP (ofP d)).1 = (⟨(findP (ofP d)).1, 0, if (findP (ofP d)).1.length = 0 then 6 else 0, 0, 0, 0, startM (ofP d)⟩, 0) := by unfold newP; rw [if_neg (by simpa using hs), f1, if_neg (by decide)]
 have n6 : (newP (ofP d) (repsP R (ofP d).vs.length) (findP (ofP d)).1).1.replica = 0 := by rw [e]
 have n7 : (newP (ofP d) (repsP R (ofP d).vs.length) (findP (ofP d)).1).1.token = 0 := by rw [e]
 refine ⟨hv, f1, f3, hs, fun k hk => ?_⟩
 have := pastAt_k (ch := ch) n1 n5 ⟨n2, by omega, by omega, by omega⟩ n7 hs (by omega) hch k hk
 exact ⟨this.ck, this.cr, this.b⟩
theorem ofC_fn (d : DraftD) (R ch : List Int) (hd : draftOK d) (hR : u8s R) (hch : u8s ch) (h : caseOK d = true) (h40 : ch.length ≤ 40) : FnSound Tryz.prog 19 [.val true (caseC d R ch)] [] { vals := [(true, probC (ofP d)), (false, [.d (.sl 1 (dInts (repsP R (ofP d).vs.length)))]), (true, ctlC (nowAt d R ch ch.length)), (false, [.d (.v (.bool true))])] } := by
 obtain ⟨k0, k1, k2, k3, hk⟩ := now_k hd hR hch h
 unfold caseOK at h
 rw [Bool.and_eq_true, Bool.and_eq_true, decide_eq_true_eq] at h
 obtain ⟨ho, hli, hfi⟩ := h
 have hof := of_fn d hd ho
 have hvp := vp_all k0
 have hlf := lightOK_fn (ofP d) k0 120 (by omega)
 rw [hli] at hlf
 have hff := findOK_fn (ofP d) k0
 rw [hfi] at hff
 have hnf := new_fn (ofP d) (repsP R (ofP d).vs.length) (findP (ofP d)).1 k3 k1 (by omega)
 have hnfk : ∀ k : Nat, k = (ofP d).vs.length → FnSound Tryz.prog 16 [.val true (probC (ofP d)), .val false [.d (.sl 1 (dInts (repsP R k)))], .val false [.d (.sl 3 (dSteps (findP (ofP d)).1))]] [] { vals := [(true, ctlC (nowAt d R ch 0)), (false, [.d (.v (.int .i64 0))])] } := fun k e => by rw [e]; exact hnf
 have hu := u8_get hR
 have huc := u8_get hch
 have ht3 := fun k => tmod3 (hu k)
 have hrl := fun n => repsP_len (R := R) (n := n)
 have hus := fun (k : Nat) (hk' : k ≤ 40) => useful_fn (ofP d) (nowAt d R ch k) (ch.getD k 0) (hk k (by omega)).ck (by rw [(hk k (by omega)).b.plan]; omega) (huc k)
 have hnx : ∀ k j : Nat, k ≤ 40 → j = (ofP d).vs.length → FnSound Tryz.prog 58 [.val true (probC (ofP d)), .val false [.d (.sl 1 (dInts (repsP R j)))], .val true (ctlC (nowAt d R ch k)), .val true (sigC (usefulP (nowAt d R ch k) (ch.getD k 0)))] [] { vals := [(true, ctlC (nowAt d R ch (k + 1))), (false, [.d (.sl 10 (dActs (nextP (ofP d) (repsP R (ofP d).vs.length) (nowAt d R ch k) (usefulP (nowAt d R ch k) (ch.getD k 0))).2))])] } := fun k j hk' e => by
  have h1 := (hk k (by omega)).b
  have h2 := h1.rd
  have h3 := h1.rp
  rw [e]
  exact next_fn (ofP d) (repsP R (ofP d).vs.length) (nowAt d R ch k) (usefulP (nowAt d R ch k) (ch.getD k 0)) (hk k (by omega)).ck k3 (by rw [h1.plan]; omega) (by omega) (by omega)
 clear hk
 generalize nowAt d R ch = st at hus hnx hnfk
 refine startW (tm := [(0, _)]) Tryz.func19 rfl Tryz.ntmps19 rfl rfl rfl rfl ?_
 repeat' (first
 |(with_reducible refine rgn 11 1100 ?_ ?_); exact rfl
 |(with_reducible refine rgn 12 1200 ?_ ?_); exact rfl
 |(with_reducible refine rgn 13 1300 ?_ ?_); exact rfl
 |(with_reducible refine rgn 14 1400 ?_ ?_); exact rfl
 |(with_reducible refine rgn 10 1500 ?_ ?_); exact rfl
 |(with_reducible refine reg_at (id := 15) ?_); (try (refine JL.shutW 10 rfl rfl ?_)); (with_reducible refine rg ?_ ?_); exact rfl
 |(with_reducible refine rgn 19 1900 ?_ ?_); exact rfl
 |(with_reducible refine rgn 18 2000 ?_ ?_); exact rfl
 |(with_reducible refine K_ca 10 ?_); refine zC (hof) ?_
 |(with_reducible refine K_ca 12 ?_); refine zC (hlf) ?_
 |(with_reducible refine K_ca 57 ?_); refine zC (hff) ?_
 |(with_reducible refine K_ca 16 ?_); refine zC (hnfk k (by omega)) ?_
 |(with_reducible refine K_ca 25 ?_); refine zC (hus i (by omega)) ?_
 |(with_reducible refine K_ca 58 ?_); refine zC (hnx i k (by omega) (by omega)) ?_
 |(with_reducible refine blk_at (id := 0) ?_); (try (refine JL.zeroW 10 _ 3 1 rfl rfl ?_)); (refine JL.rekW 10 (1160, 951) rfl rfl rfl rfl ?_); ((with_reducible refine JL.loopW 0 999 (fun (k : Nat) tm => (11, .one false [.d (.v (.int .i64 ((k : Int))))]) :: (10, .one false [.own (1160, 951)]) :: tm) (fun (k : Nat) bo => ((1160, 951), some (.sl 3 1 ((dInts (repsP R k))))) :: bo) (fun (k : Nat) => k ≤ (ofP d).vs.length) (fun (k : Nat) => (ofP d).vs.length - k) (0) ?_ (fun k hk => have h1 := ht3 k; have h2 := hrl k; ?_) ?_); (focus (apply SubW [((1160, 951), _)] rfl ?_ ?_ rfl ?_; (repeat' (first | exact kA | refine kB ?_ | refine kC ?_ ?_ | exact kD | fail)))))
 |((with_reducible refine round_next (i := k) (k + 1) ?_ ?_ ?_); (focus (apply SubW [((1160, 951), _)] rfl ?_ ?_ rfl ?_; (repeat' (first | exact kA | refine kB ?_ | refine kC ?_ ?_ | exact kD | fail)))))
 |(with_reducible refine blk_at (id := 2) ?_); ((with_reducible refine JL.loopW 2 1799 (fun (i : Nat) tm => (14, .one false [.d (.v (.int .i64 ((i : Int))))]) :: tm) (fun (i : Nat) bo => ((448, 1600), some (.st 39 [.d (.sl 3 ((dSteps (st i).plan))), .d (.v (.int .i64 ((st i).at_))), .d (.v (.int .i64 ((st i).phase))), .d (.v (.int .i64 ((st i).replica))), .d (.v (.int .i64 ((st i).round))), .d (.v (.int .i64 ((st i).token))), .d (.sl 1 ((dInts (st i).mix.base))), .d (.sl 1 ((dInts (st i).mix.next))), .d (.sl 1 ((dSets (st i).mix.held)))])) :: bo) (fun (i : Nat) => i ≤ ch.length) (fun (i : Nat) => ch.length - i) (0) ?_ (fun i hi => ?_) ?_); (focus (apply SubW [] rfl ?_ ?_ rfl ?_; (repeat' (first | exact kA | refine kB ?_ | refine kC ?_ ?_ | exact kD | fail)))))
 |((with_reducible refine round_next (i := i) (i + 1) ?_ ?_ ?_); (focus (apply SubW [] rfl ?_ ?_ rfl ?_; (repeat' (first | exact kA | refine kB ?_ | refine kC ?_ ?_ | exact kD | fail)))))
 |refine wA ?_
 |(refine wC ?_ ?_ <;> intro hc)
 |refine wB ?_ ?_
 |(with_reducible refine JL.block ?_)
 |(with_reducible refine F_at ?_); refine eW (vs := [(_, _), (_, _), (_, _), (_, _)]) Tryz.results19 ?_; (focus (repeat' (first | exact oA | refine oB ?_ | refine oC ?_ ?_ | fail)))
 |exact oM
 |fail)
 all_goals first
  | rfl
  | (rw [repsP_y (by omega)]; done)
  | (rw [repsP_n (by omega)]; done)
  | (have e : k = (ofP d).vs.length := by omega
     rw [e]; done)
  | (have e : i = ch.length := by omega
     rw [e]; done)
  | trace_state
end Go.Proofs.YtdpeoolildjohaaGreatDoor

