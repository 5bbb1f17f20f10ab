/- Rows.ControllerRunCardSaid: for every input the law returns true and leaves its arguments as they were. Condition (the card's own): the listed tables of Go's library hold what the program's text lays. -/
import Derived.LaidMore
import Derived.Lay
import Derived.SevenTiedAt
import Derived.Stop.Joined
import Derived.Stop.LaidErr
import Derived.Test.YtdpeoolildjohaaGreatDoorCards
import Derived.Test.YtdpeoolildjohaaGreatDoorQA14
import Derived.Test.YtdpeoolildjohaaGreatDoorQA27
import Derived.Test.YtdpeoolildjohaaGreatDoorTA39
import Derived.Test.YtdpeoolildjohaaGreatDoorTA40
import Derived.Test.YtdpeoolildjohaaGreatDoorTC1
import Derived.Test.YtdpeoolildjohaaGreatDoorTD1
import Derived.Test.YtdpeoolildjohaaGreatDoorTF1
import Derived.Test.YtdpeoolildjohaaGreatDoorTie
namespace Go.Proofs.YtdpeoolildjohaaGreatDoor
open Go Go.RowKit
set_option maxRecDepth 100000
set_option maxHeartbeats 8000000
set_option linter.unusedSimpArgs false
set_option linter.unusedVariables false
theorem run_law (d : DraftD) (R ch : List Int) (ss : List SigD) (hd : draftOK d) (hR : u8s R) (hch : u8s ch) : FnSound Tryz.prog 4 [.val true (caseC d R ch), .val false [.d (.sl 7 (dSigs ss))]] [] { vals := [(false, [.d (.v (.bool true))])] } := by
 by_cases h : caseOK d = true ∧ ch.length ≤ 40
 ·have hof := ofC_fn d R ch hd hR hch h.1 h.2
  by_cases h20 : ss.length ≤ 20
  ·obtain ⟨k0, k1, k2, k3, hk⟩ := now_k hd hR hch h.1
   have hs := hk ch.length (by omega)
   generalize nowAt d R ch ch.length = c at hof hs
   generalize hp : ofP d = p at *
   generalize hr : repsP R p.vs.length = rs at *
   generalize hl : (findP p).1 = l at *
   have hpl := hs.b.plan
   have hcc : checkP p c.plan = true := by rw [hpl]; exact k1
   have hll : c.plan.length ≤ 1000000 := by rw [hpl]; omega
   have hs' : SigK p rs c.plan c ch.length := by rw [hpl]; exact hs
   have g1 := psigs_fn p rs c ss ch.length hs' (by omega) k3 hcc hll (by omega)
   have g2 := rrun_fn p rs c ss ch.length hs' (by omega) k3 hcc hll (by omega)
   obtain ⟨hn, hn2⟩ := sigAt_k (ss := ss) hs' (by omega) k3 hll ss.length (by omega)
   have e1 : (sigAt p rs c ss ss.length).1.plan = c.plan := hn.b.plan
   have g5 := same_fn (sigAt p rs c ss ss.length).1 (by rw [e1]; exact hll) hn.ck.g.few hn.ck.g.u
   have g6 := sacts_fn (sigAt p rs c ss ss.length).2 (by omega)
   have g7 := cloneSigs_fn ss (by omega)
   clear hs hs' hk hn e1 hn2
   generalize sigAt p rs c ss ss.length = x at *
   refine startW (tm := [(0, _), (1, _)]) Tryz.func4 rfl Tryz.ntmps4 rfl rfl rfl rfl ?_
   repeat' (first
 |(with_reducible refine K_ca 19 ?_); refine zC (hof) ?_
 |(with_reducible refine K_ca 11 ?_); refine zC (awake_fn) ?_
 |(with_reducible refine K_ca 21 ?_); refine zS (g7) ?_
 |(with_reducible refine K_ca 20 ?_); refine zC (g1) ?_
 |(with_reducible refine K_ca 22 ?_); refine zC (g2) ?_
 |(with_reducible refine K_ca 17 ?_); refine zC (g5) ?_
 |(with_reducible refine K_ca 23 ?_); refine zC (g6) ?_
 |refine wA ?_
 |(refine wC ?_ ?_ <;> intro hc)
 |refine wB ?_ ?_
 |(with_reducible refine JL.block ?_)
 |(with_reducible refine F_at ?_); refine eW (vs := [(_, _)]) Tryz.results4 ?_; (focus (repeat' (first | exact oA | refine oB ?_ | refine oC ?_ ?_ | fail)))
 |exact oM
 |fail)
   all_goals first | rfl | (exfalso; omega) | trace_state
  ·refine startW (tm := [(0, _), (1, _)]) Tryz.func4 rfl Tryz.ntmps4 rfl rfl rfl rfl ?_
   repeat' (first
 |(with_reducible refine K_ca 19 ?_); refine zC (hof) ?_
 |(with_reducible refine K_ca 11 ?_); refine zC (awake_fn) ?_
 |refine wA ?_
 |(refine wC ?_ ?_ <;> intro hc)
 |refine wB ?_ ?_
 |(with_reducible refine JL.block ?_)
 |(with_reducible refine F_at ?_); refine eW (vs := [(_, _)]) Tryz.results4 ?_; (focus (repeat' (first | exact oA | refine oB ?_ | refine oC ?_ ?_ | fail)))
 |exact oM
 |fail)
   all_goals first | rfl | (exfalso; omega) | trace_state
 ·have hof := ofNoC_fn d R ch hd h
  refine startW (tm := [(0, _), (1, _)]) Tryz.func4 rfl Tryz.ntmps4 rfl rfl rfl rfl ?_
  repeat' (first
 |(with_reducible refine K_ca 19 ?_); refine zC (hof) ?_
 |(with_reducible refine K_ca 11 ?_); refine zC (awake_fn) ?_
 |refine wA ?_
 |(refine wC ?_ ?_ <;> intro hc)
 |refine wB ?_ ?_
 |(with_reducible refine JL.block ?_)
 |(with_reducible refine F_at ?_); refine eW (vs := [(_, _)]) Tryz.results4 ?_; (focus (repeat' (first | exact oA | refine oB ?_ | refine oC ?_ ?_ | fail)))
 |exact oM
 |fail)
  all_goals first | rfl | (exfalso; omega) | trace_state
end Go.Proofs.YtdpeoolildjohaaGreatDoor

namespace Go.Proofs.YtdpeoolildjohaaGreatDoor
open Go.ChangeShapes Go.WideShapes Go.ChangeAt Go.RowKit Go.Joins Go.Deep
set_option linter.unusedSimpArgs false
set_option linter.unusedVariables false
set_option maxRecDepth 100000
theorem controllerRun_lifted (os : Os) (started : os.Started) (H : Type) (enc : TypeId × Value → H) :
    ReturnsInHanded {} Tryz.checked os 4 .any (fun w args => (Rows.controllerRunSpec.pre enc Tryz.prog Tryz.f4 [] false w args ∧ laidMetH Tryz.prog Rows.controllerRunRow.laid w) ∧ sizedMet enc Tryz.prog Tryz.f4 (OpenSpec.ofChange Rows.controllerRunSpec) false w args)
     (Rows.controllerRunSpec.post enc Tryz.prog Tryz.f4 false true false false) := by
 refine returnsInHanded_of_change_and (C := Tryz.checked) (X := fun w _ => laidMetH Tryz.prog Rows.controllerRunRow.laid w) (fun _ _ _ hh h => h.of_heap hh) own started (by kernel_rfl) Tryz.func4
  (ChangeSpec.witness_shaped (enc := enc) (C := Tryz.checked) (os := os) (X := fun w _ => laidMetH Tryz.prog Rows.controllerRunRow.laid w) false (World.laidAll Tryz.prog os Rows.controllerRunRow.laid) #[.agg #[.slice none 0 0, .slice none 0 0, .slice none 0 0, .slice none 0 0, .slice none 0 0, .slice none 0 0], .slice none 0 0] 8 rfl (World.shaped_of_ZipB (by kernel_rfl) (by kernel_rfl)) (by kernel_rfl) (by kernel_rfl) (by kernel_rfl)
   (by rw [MakeChecks.laidMetH_plain _ _ _ (by kernel_rfl)]; exact laidMet_laidAll _ (by kernel_rfl) (by kernel_rfl))) ?_
 intro W base args ds gs before hval hW hcnd hsz hL _
 have hW' := hW
 obtain ⟨p, q, hA0, hV, rfl, hfz, hnd⟩ := hW
 have hval' : ∀ (j : Nat) t v, Tryz.f4.params[j]? = some t → args[j]? = some v → Value.okWide Tryz.prog W .any base t v := hval
 have hA : DataW.TrodAll enc Tryz.prog W 0 (fun _ => true) true Tryz.f4.params.toList args.toList ds p := hA0
 rw [Tryz.params4] at hA hval'
 obtain ⟨v0, vs0, d0, ds0, p0, q0, hargs, rfl, rfl, h0, r0⟩ := trodAll_cons hA
 obtain ⟨v1, vs1, d1, ds1, p1, q1, rfl, rfl, rfl, h1, r1⟩ := trodAll_cons r0
 obtain ⟨rfl, rfl, rfl⟩ := trodAll_nil r1
 obtain rfl : args = #[v0, v1] := by cases args; simp_all
 obtain ⟨x0, R0, ch0, a0, s0, t0, u0⟩ := open_case (S := S0) S0_all (hval' 0 51 v0 rfl rfl) (sz_arg hsz (j := 0) (t := 51) rfl rfl) h0
 obtain ⟨x1, a1⟩ := open_sigsA (S := S0) S0_all (hval' 1 52 v1 rfl rfl) (sz_arg hsz (j := 1) (t := 52) rfl rfl) h1
 have hC := calls_of_fn (xs := [(true, caseC x0 R0 ch0), (false, [.d (.sl 7 (dSigs x1))])]) (vals := [v0, v1]) (w := W) (run_law x0 R0 ch0 x1 s0 t0 u0) rfl (fun i y hy => match i, hy with
  | 0, hy => by cases hy; exact a0 ρ0 _
  | 1, hy => by cases hy; exact a1 ρ0 _
  | _ + 2, hy => by cases hy)
 exact hC.mono fun e W' ⟨he, hb⟩ => ⟨_, he, law_post rfl laid (by kernel_rfl) (by kernel_rfl) Tryz.underlying4 hW' rfl hb⟩
theorem controllerRun_row : Rows.ControllerRunSaid :=
 OpenClaim.holds_of_wide 4 Tryz.f4 rfl rfl rfl rfl rfl rfl rfl ⟨rfl, rfl, rfl, rfl, rfl⟩ rfl rfl rfl rfl rfl (by kernel_rfl) Tryz.func4 (by kernel_rfl)
  (of_decide_eq_true (by kernel_rfl)) (by unfold Func.isWrapper; first | (rw [if_pos (by decide +kernel)]; kernel_rfl) | (rw [if_neg (by decide +kernel)]; exact ⟨rfl, rfl⟩))
  (fun os started H enc _ => controllerRun_lifted os started H enc)
theorem controllerRunCard_holds : Rows.ControllerRunCardSaid :=
 Claim7.holds_tied_plain_at .later [] [.data, .data, .data] true Rows.controllerRunCard.stood.harness false
  controllerRun_row (fun _ h => by cases h) (by kernel_rfl) (fun _ h => by cases h) controllerRun_row_tie rfl ⟨rfl, rfl⟩ (by kernel_rfl) rfl
  (fun f fn hf hfn => by
   obtain rfl : f = 4 := Option.some.inj ((show Tryz.prog.funcNamed Rows.controllerRunRow.func = some 4 by kernel_rfl).symm.trans hf) |>.symm
   obtain rfl : fn = Tryz.f4 := (Option.some.inj (Tryz.func4.symm.trans hfn)).symm
   exact ⟨by kernel_rfl, fun j t ht => by
    rw [Tryz.params4] at ht
    have hm : t ∈ [51, 52] := by simpa using Array.mem_of_getElem? ht
    have hall : ([51, 52].all fun u => !Tryz.prog.wantsStandIn u) = true := by kernel_rfl
    exact (show Tryz.prog.wantsStandIn t = false by simpa using List.all_eq_true.1 hall t hm)⟩)
  (by kernel_rfl)
#print axioms controllerRunCard_holds
end Go.Proofs.YtdpeoolildjohaaGreatDoor

