/- Rows.ControllerTokenCardSaid: for every input the law returns true and leaves its arguments as they were. Condition (the card's own): the listed tables of Go's library hold what the program's text lays. -/
import Derived.LaidMore
import Derived.Lay
import Derived.SevenTiedAt
import Derived.Stop.Joined
import Derived.Stop.LaidErr
import Derived.Test.YtdpeoolildjohaaGreatDoorCards
import Derived.Test.YtdpeoolildjohaaGreatDoorQA14
import Derived.Test.YtdpeoolildjohaaGreatDoorQA27
import Derived.Test.YtdpeoolildjohaaGreatDoorTA39
import Derived.Test.YtdpeoolildjohaaGreatDoorTA40
import Derived.Test.YtdpeoolildjohaaGreatDoorTC1
import Derived.Test.YtdpeoolildjohaaGreatDoorTD1
import Derived.Test.YtdpeoolildjohaaGreatDoorTie
namespace Go.Proofs.YtdpeoolildjohaaGreatDoor
open Go Go.RowKit
set_option maxRecDepth 100000
set_option maxHeartbeats 8000000
set_option linter.unusedSimpArgs false
set_option linter.unusedVariables false
theorem tok_lost {p : Prob} {rs : List Int} {c : CtlD} : nextP p rs c (sig 2) = ({ c with token := 0 }, []) := by
 unfold nextP
 rw [if_neg (by show ¬ (2 : Int) = 1; decide)]
 by_cases h : c.token = 0
 ·rw [if_pos h]
  obtain ⟨a, b, d, e, f, g, i⟩ := c
  have : g = 0 := h
  rw [this]
 ·rw [if_neg h, if_pos (show (sig 2).kind = 2 from rfl)]
theorem tok_none {p : Prob} {rs : List Int} {c : CtlD} {s : SigD} (h : c.token = 0) (hk : ¬ s.kind = 1) : nextP p rs c s = (c, []) := by
 unfold nextP
 rw [if_neg hk, if_pos h]
theorem token_law (d : DraftD) (R ch : List Int) (s : SigD) (hd : draftOK d) (hR : u8s R) (hch : u8s ch) : FnSound Tryz.prog 7 [.val true (caseC d R ch), .val true (sigC s)] [] { vals := [(false, [.d (.v (.bool true))])] } := by
 by_cases h : caseOK d = true ∧ ch.length ≤ 40
 ·have hof := ofC_fn d R ch hd hR hch h.1 h.2
  obtain ⟨k0, k1, k2, k3, hk⟩ := now_k hd hR hch h.1
  have hs := hk ch.length (by omega)
  generalize nowAt d R ch ch.length = c at hof hs
  generalize hp : ofP d = p at *
  generalize hr : repsP R p.vs.length = rs at *
  generalize hl : (findP p).1 = l at *
  have hpl := hs.b.plan
  have hcc : checkP p c.plan = true := by rw [hpl]; exact k1
  have hll : c.plan.length ≤ 1000000 := by rw [hpl]; omega
  have hs' : SigK p rs c.plan c ch.length := by rw [hpl]; exact hs
  have g1 := pstep_fn p rs c (sig 2) ch.length hs' (by omega) k3 hcc hll
  rw [tok_lost] at g1
  have g2 := same_fn { c with token := 0 } hll hs.ck.g.few hs.ck.g.u
  have h0 : SigK p rs ({ c with token := 0 } : CtlD).plan { c with token := 0 } ch.length := ⟨hs.ck.token 0, hs.cr.token (by omega), ⟨rfl, hs.b.rd, hs.b.rp, Int.le_refl 0⟩⟩
  by_cases hk1 : s.kind = 1
  ·clear hs hs' hk h0
   refine startW (tm := [(0, _), (1, _)]) Tryz.func7 rfl Tryz.ntmps7 rfl rfl rfl rfl ?_
   repeat' (first
 |(with_reducible refine K_ca 19 ?_); refine zC (hof) ?_
 |(with_reducible refine K_ca 11 ?_); refine zC (awake_fn) ?_
 |(with_reducible refine K_ca 24 ?_); refine zC (g1) ?_
 |(with_reducible refine K_ca 17 ?_); refine zC (g2) ?_
 |refine wA ?_
 |(refine wC ?_ ?_ <;> intro hc)
 |refine wB ?_ ?_
 |(with_reducible refine JL.block ?_)
 |(with_reducible refine F_at ?_); refine eW (vs := [(_, _)]) Tryz.results7 ?_; (focus (repeat' (first | exact oA | refine oB ?_ | refine oC ?_ ?_ | fail)))
 |exact oM
 |fail)
   all_goals first | rfl | (exfalso; omega) | trace_state
  ·have g3 := pstep_fn p rs { c with token := 0 } s ch.length h0 (by omega) k3 hcc hll
   rw [tok_none rfl hk1] at g3
   clear hs hs' hk h0
   refine startW (tm := [(0, _), (1, _)]) Tryz.func7 rfl Tryz.ntmps7 rfl rfl rfl rfl ?_
   repeat' (first
 |(with_reducible refine K_ca 19 ?_); refine zC (hof) ?_
 |(with_reducible refine K_ca 11 ?_); refine zC (awake_fn) ?_
 |(with_reducible refine K_ca 24 ?_); (first
 |refine zC (g1) ?_
 |refine zC (g3) ?_)
 |(with_reducible refine K_ca 17 ?_); refine zC (g2) ?_
 |refine wA ?_
 |(refine wC ?_ ?_ <;> intro hc)
 |refine wB ?_ ?_
 |(with_reducible refine JL.block ?_)
 |(with_reducible refine F_at ?_); refine eW (vs := [(_, _)]) Tryz.results7 ?_; (focus (repeat' (first | exact oA | refine oB ?_ | refine oC ?_ ?_ | fail)))
 |exact oM
 |fail)
   all_goals first | rfl | (exfalso; omega) | trace_state
 ·have hof := ofNoC_fn d R ch hd h
  refine startW (tm := [(0, _), (1, _)]) Tryz.func7 rfl Tryz.ntmps7 rfl rfl rfl rfl ?_
  repeat' (first
 |(with_reducible refine K_ca 19 ?_); refine zC (hof) ?_
 |(with_reducible refine K_ca 11 ?_); refine zC (awake_fn) ?_
 |refine wA ?_
 |(refine wC ?_ ?_ <;> intro hc)
 |refine wB ?_ ?_
 |(with_reducible refine JL.block ?_)
 |(with_reducible refine F_at ?_); refine eW (vs := [(_, _)]) Tryz.results7 ?_; (focus (repeat' (first | exact oA | refine oB ?_ | refine oC ?_ ?_ | fail)))
 |exact oM
 |fail)
  all_goals first | rfl | (exfalso; omega) | trace_state
end Go.Proofs.YtdpeoolildjohaaGreatDoor

namespace Go.Proofs.YtdpeoolildjohaaGreatDoor
open Go.ChangeShapes Go.WideShapes Go.ChangeAt Go.RowKit Go.Joins Go.Deep
set_option linter.unusedSimpArgs false
set_option linter.unusedVariables false
set_option maxRecDepth 100000
theorem controllerToken_lifted (os : Os) (started : os.Started) (H : Type) (enc : TypeId × Value → H) :
    ReturnsInHanded {} Tryz.checked os 7 .any (fun w args => (Rows.controllerTokenSpec.pre enc Tryz.prog Tryz.f7 [] false w args ∧ laidMetH Tryz.prog Rows.controllerTokenRow.laid w) ∧ sizedMet enc Tryz.prog Tryz.f7 (OpenSpec.ofChange Rows.controllerTokenSpec) false w args)
     (Rows.controllerTokenSpec.post enc Tryz.prog Tryz.f7 false true false false) := by
 refine returnsInHanded_of_change_and (C := Tryz.checked) (X := fun w _ => laidMetH Tryz.prog Rows.controllerTokenRow.laid w) (fun _ _ _ hh h => h.of_heap hh) own started (by kernel_rfl) Tryz.func7
  (ChangeSpec.witness_shaped (enc := enc) (C := Tryz.checked) (os := os) (X := fun w _ => laidMetH Tryz.prog Rows.controllerTokenRow.laid w) false (World.laidAll Tryz.prog os Rows.controllerTokenRow.laid) #[.agg #[.slice none 0 0, .slice none 0 0, .slice none 0 0, .slice none 0 0, .slice none 0 0, .slice none 0 0], .agg #[.int .i64 0, .int .i64 0, .int .i64 0, .int .i64 0, .int .i64 0, .bool false, .int .i64 0]] 8 rfl (World.shaped_of_ZipB (by kernel_rfl) (by kernel_rfl)) (by kernel_rfl) (by kernel_rfl) (by kernel_rfl)
   (by rw [MakeChecks.laidMetH_plain _ _ _ (by kernel_rfl)]; exact laidMet_laidAll _ (by kernel_rfl) (by kernel_rfl))) ?_
 intro W base args ds gs before hval hW hcnd hsz hL _
 have hW' := hW
 obtain ⟨p, q, hA0, hV, rfl, hfz, hnd⟩ := hW
 have hval' : ∀ (j : Nat) t v, Tryz.f7.params[j]? = some t → args[j]? = some v → Value.okWide Tryz.prog W .any base t v := hval
 have hA : DataW.TrodAll enc Tryz.prog W 0 (fun _ => true) true Tryz.f7.params.toList args.toList ds p := hA0
 rw [Tryz.params7] at hA hval'
 obtain ⟨v0, vs0, d0, ds0, p0, q0, hargs, rfl, rfl, h0, r0⟩ := trodAll_cons hA
 obtain ⟨v1, vs1, d1, ds1, p1, q1, rfl, rfl, rfl, h1, r1⟩ := trodAll_cons r0
 obtain ⟨rfl, rfl, rfl⟩ := trodAll_nil r1
 obtain rfl : args = #[v0, v1] := by cases args; simp_all
 obtain ⟨x0, R0, ch0, a0, s0, t0, u0⟩ := open_case (S := S0) S0_all (hval' 0 51 v0 rfl rfl) (sz_arg hsz (j := 0) (t := 51) rfl rfl) h0
 obtain ⟨x1, a1⟩ := open_sigA (S := S0) (hval' 1 60 v1 rfl rfl) (sz_arg hsz (j := 1) (t := 60) rfl rfl) h1
 have hC := calls_of_fn (xs := [(true, caseC x0 R0 ch0), (true, sigC x1)]) (vals := [v0, v1]) (w := W) (token_law x0 R0 ch0 x1 s0 t0 u0) rfl (fun i y hy => match i, hy with
  | 0, hy => by cases hy; exact a0 ρ0 _
  | 1, hy => by cases hy; exact a1 ρ0 _
  | _ + 2, hy => by cases hy)
 exact hC.mono fun e W' ⟨he, hb⟩ => ⟨_, he, law_post rfl laid (by kernel_rfl) (by kernel_rfl) Tryz.underlying4 hW' rfl hb⟩
theorem controllerToken_row : Rows.ControllerTokenSaid :=
 OpenClaim.holds_of_wide 7 Tryz.f7 rfl rfl rfl rfl rfl rfl rfl ⟨rfl, rfl, rfl, rfl, rfl⟩ rfl rfl rfl rfl rfl (by kernel_rfl) Tryz.func7 (by kernel_rfl)
  (of_decide_eq_true (by kernel_rfl)) (by unfold Func.isWrapper; first | (rw [if_pos (by decide +kernel)]; kernel_rfl) | (rw [if_neg (by decide +kernel)]; exact ⟨rfl, rfl⟩))
  (fun os started H enc _ => controllerToken_lifted os started H enc)
theorem controllerTokenCard_holds : Rows.ControllerTokenCardSaid :=
 Claim7.holds_tied_plain_at .later [] [.data, .data, .data] true Rows.controllerTokenCard.stood.harness false
  controllerToken_row (fun _ h => by cases h) (by kernel_rfl) (fun _ h => by cases h) controllerToken_row_tie rfl ⟨rfl, rfl⟩ (by kernel_rfl) rfl
  (fun f fn hf hfn => by
   obtain rfl : f = 7 := Option.some.inj ((show Tryz.prog.funcNamed Rows.controllerTokenRow.func = some 7 by kernel_rfl).symm.trans hf) |>.symm
   obtain rfl : fn = Tryz.f7 := (Option.some.inj (Tryz.func7.symm.trans hfn)).symm
   exact ⟨by kernel_rfl, fun j t ht => by
    rw [Tryz.params7] at ht
    have hm : t ∈ [51, 60] := by simpa using Array.mem_of_getElem? ht
    have hall : ([51, 60].all fun u => !Tryz.prog.wantsStandIn u) = true := by kernel_rfl
    exact (show Tryz.prog.wantsStandIn t = false by simpa using List.all_eq_true.1 hall t hm)⟩)
  (by kernel_rfl)
#print axioms controllerTokenCard_holds
end Go.Proofs.YtdpeoolildjohaaGreatDoor

