/- Rows.ControllerNewCardSaid: for every input the law returns true and leaves its arguments as they were. Condition (the card's own): the listed tables of Go's library hold what the program's text lays. -/
import Derived.LaidMore
import Derived.Lay
import Derived.SevenTiedAt
import Derived.Stop.Joined
import Derived.Stop.LaidErr
import Derived.Test.YtdpeoolildjohaaGreatDoorCards
import Derived.Test.YtdpeoolildjohaaGreatDoorQA14
import Derived.Test.YtdpeoolildjohaaGreatDoorTA37
import Derived.Test.YtdpeoolildjohaaGreatDoorTA39
import Derived.Test.YtdpeoolildjohaaGreatDoorTA40
import Derived.Test.YtdpeoolildjohaaGreatDoorTD1
import Derived.Test.YtdpeoolildjohaaGreatDoorTJ1
import Derived.Test.YtdpeoolildjohaaGreatDoorTie
namespace Go.Proofs.YtdpeoolildjohaaGreatDoor
open Go Go.RowKit
set_option maxRecDepth 100000
set_option maxHeartbeats 8000000
set_option linter.unusedSimpArgs false
set_option linter.unusedVariables false
theorem newA_fn (p : Prob) (rs : List Int) (l : List StepD) (hv : vpErr p = 0) (hl : l.length ≤ 1000000) : FnSound Tryz.prog 16 [.val true (probC p), .val false [.d (.sl 1 (dInts rs))], .val false [.d (.sl 3 (dSteps l))]] [] { vals := [(true, ctlC (newP p rs l).1), (false, [.d (.v (.int .i64 (newP p rs l).2))])] } := by
 by_cases hs : setErr p rs = 0
 ·cases hc : checkP p l with
  | true =>
   have := new_fn p rs l hs hc hl
   rw [(newP_k hs hc).2.2.2]
   exact this
  | false =>
   have hk := check_fn p l hv hl
   rw [hc] at hk
   rw [newP_un hs hc]
   refine startW (tm := [(0, _), (1, _), (2, _)]) Tryz.func16 rfl Tryz.ntmps16 rfl rfl rfl rfl ?_
   repeat' (first
 |(with_reducible refine K_ca 48 ?_); refine zC (settingOK_fn hs) ?_
 |(with_reducible refine K_ca 49 ?_); refine zC (hk) ?_
 |refine wA ?_
 |(refine wC ?_ ?_ <;> intro hc)
 |refine wB ?_ ?_
 |(with_reducible refine JL.block ?_)
 |(with_reducible refine F_at ?_); refine eW (vs := [(_, _), (_, _)]) Tryz.results16 ?_; (focus (repeat' (first | exact oA | refine oB ?_ | refine oC ?_ ?_ | fail)))
 |exact oM
 |fail)
   all_goals first | rfl | trace_state
 ·have hst := setting_fn p rs
  rw [newP_bad hs]
  refine startW (tm := [(0, _), (1, _), (2, _)]) Tryz.func16 rfl Tryz.ntmps16 rfl rfl rfl rfl ?_
  repeat' (first
 |(with_reducible refine K_ca 48 ?_); refine zC (hst) ?_
 |refine wA ?_
 |(refine wC ?_ ?_ <;> intro hc)
 |refine wB ?_ ?_
 |(with_reducible refine JL.block ?_)
 |(with_reducible refine F_at ?_); refine eW (vs := [(_, _), (_, _)]) Tryz.results16 ?_; (focus (repeat' (first | exact oA | refine oB ?_ | refine oC ?_ ?_ | fail)))
 |exact oM
 |fail)
  all_goals first | rfl | (exfalso; omega) | trace_state
end Go.Proofs.YtdpeoolildjohaaGreatDoor

namespace Go.Proofs.YtdpeoolildjohaaGreatDoor
open Go Go.RowKit
set_option maxRecDepth 100000
set_option maxHeartbeats 8000000
set_option linter.unusedSimpArgs false
set_option linter.unusedVariables false
theorem new_law (d : DraftD) (rs : List Int) (l : List StepD) (hd : draftOK d) : FnSound Tryz.prog 3 [.val true (draftC d), .val false [.d (.sl 1 (dInts rs))], .val false [.d (.sl 3 (dSteps l))]] [] { vals := [(false, [.d (.v (.bool true))])] } := by
 cases ho : ofOK d with
 | false =>
  have hof := ofNo_fn d ho
  refine startW (tm := [(0, _), (1, _), (2, _)]) Tryz.func3 rfl Tryz.ntmps3 rfl rfl rfl rfl ?_
  repeat' (first
 |(with_reducible refine K_ca 10 ?_); refine zC (hof) ?_
 |(with_reducible refine K_ca 11 ?_); refine zC (awake_fn) ?_
 |refine wA ?_
 |(refine wC ?_ ?_ <;> intro hc)
 |refine wB ?_ ?_
 |(with_reducible refine JL.block ?_)
 |(with_reducible refine F_at ?_); refine eW (vs := [(_, _)]) Tryz.results3 ?_; (focus (repeat' (first | exact oA | refine oB ?_ | refine oC ?_ ?_ | fail)))
 |exact oM
 |fail)
  all_goals first | rfl | trace_state
 | true =>
  have hof := of_fn d hd ho
  have hv := ofP_sound hd ho
  generalize ofP d = p at *
  have hli := lightOK_fn p hv 120 (by omega)
  generalize lightP p 120 = g at hli
  by_cases h1 : rs.length ≤ 6
  ·by_cases h2 : l.length ≤ 20
   ·have a1 := cloneInts_fn rs (by omega)
    have a2 := cloneSteps_fn l (by omega)
    have a3 := pnewA_fn p rs l hv (by omega) (by omega)
    have a4 := newA_fn p rs l hv (by omega)
    by_cases hok : (newP p rs l).2 = 0
    ·have hs : setErr p rs = 0 := Classical.byContradiction fun h => h (by rw [newP_bad h] at hok; exact hok)
     have hc : checkP p l = true := by
      cases hc : checkP p l with
      | true => rfl
      | false => rw [newP_un hs hc] at hok; cases hok
     obtain ⟨n1, n2, n3, n4⟩ := newP_k hs hc
     have n5 := newP_r hs hc
     have n6 : (newP p rs l).1.replica = 0 := by unfold newP; rw [if_neg (by simpa using hs), hc, if_neg (by decide)]
     have a5 := same_fn (newP p rs l).1 (by rw [n2]; omega) n1.g.few n1.g.u
     have a6 := pvalid_fn p rs (newP p rs l).1 n1 n5 hs (by rw [n2]; exact hc) (by rw [n2]; omega) (by omega) (by omega)
     clear n1 n2 n3 n4 n5 n6
     generalize newP p rs l = x at *
     cases g
     ·refine startW (tm := [(0, _), (1, _), (2, _)]) Tryz.func3 rfl Tryz.ntmps3 rfl rfl rfl rfl ?_
      repeat' (first
 |(with_reducible refine K_ca 10 ?_); refine zC (hof) ?_
 |(with_reducible refine K_ca 11 ?_); refine zC (awake_fn) ?_
 |(with_reducible refine K_ca 12 ?_); refine zC (hli) ?_
 |refine wA ?_
 |(refine wC ?_ ?_ <;> intro hc)
 |refine wB ?_ ?_
 |(with_reducible refine JL.block ?_)
 |(with_reducible refine F_at ?_); refine eW (vs := [(_, _)]) Tryz.results3 ?_; (focus (repeat' (first | exact oA | refine oB ?_ | refine oC ?_ ?_ | fail)))
 |exact oM
 |fail)
      all_goals first | rfl | (exfalso; omega) | trace_state
     ·refine startW (tm := [(0, _), (1, _), (2, _)]) Tryz.func3 rfl Tryz.ntmps3 rfl rfl rfl rfl ?_
      repeat' (first
 |(with_reducible refine K_ca 10 ?_); refine zC (hof) ?_
 |(with_reducible refine K_ca 11 ?_); refine zC (awake_fn) ?_
 |(with_reducible refine K_ca 12 ?_); refine zC (hli) ?_
 |(with_reducible refine K_ca 14 ?_); refine zS (a1) ?_
 |(with_reducible refine K_ca 15 ?_); refine zS (a2) ?_
 |(with_reducible refine K_ca 13 ?_); refine zC (a3) ?_
 |(with_reducible refine K_ca 16 ?_); refine zC (a4) ?_
 |(with_reducible refine K_ca 17 ?_); refine zC (a5) ?_
 |(with_reducible refine K_ca 18 ?_); refine zC (a6) ?_
 |(with_reducible refine W_at ?_); (first
 |(refine W.call (sh := [_, _]) rfl bo13.h a3 rfl rfl rfl rfl rfl rfl ?_))
 |refine wA ?_
 |(refine wC ?_ ?_ <;> intro hc)
 |refine wB ?_ ?_
 |(with_reducible refine JL.block ?_)
 |(with_reducible refine F_at ?_); refine eW (vs := [(_, _)]) Tryz.results3 ?_; (focus (repeat' (first | exact oA | refine oB ?_ | refine oC ?_ ?_ | fail)))
 |exact oM
 |fail)
      all_goals first | rfl | (exfalso; omega) | trace_state
    ·have e : (newP p rs l).1 = nilCtl := by
       by_cases hs : setErr p rs = 0
       ·cases hc : checkP p l with
        | true => exact absurd (newP_k hs hc).2.2.2 hok
        | false => rw [newP_un hs hc]
       ·rw [newP_bad hs]
     rw [e] at a3 a4
     have a5 := same_fn nilCtl (by decide) ⟨by decide, by decide, by decide⟩ (fun x hx => by cases hx)
     generalize (newP p rs l).2 = x at *
     cases g
     ·refine startW (tm := [(0, _), (1, _), (2, _)]) Tryz.func3 rfl Tryz.ntmps3 rfl rfl rfl rfl ?_
      repeat' (first
 |(with_reducible refine K_ca 10 ?_); refine zC (hof) ?_
 |(with_reducible refine K_ca 11 ?_); refine zC (awake_fn) ?_
 |(with_reducible refine K_ca 12 ?_); refine zC (hli) ?_
 |refine wA ?_
 |(refine wC ?_ ?_ <;> intro hc)
 |refine wB ?_ ?_
 |(with_reducible refine JL.block ?_)
 |(with_reducible refine F_at ?_); refine eW (vs := [(_, _)]) Tryz.results3 ?_; (focus (repeat' (first | exact oA | refine oB ?_ | refine oC ?_ ?_ | fail)))
 |exact oM
 |fail)
      all_goals first | rfl | (exfalso; omega) | trace_state
     ·refine startW (tm := [(0, _), (1, _), (2, _)]) Tryz.func3 rfl Tryz.ntmps3 rfl rfl rfl rfl ?_
      repeat' (first
 |(with_reducible refine K_ca 10 ?_); refine zC (hof) ?_
 |(with_reducible refine K_ca 11 ?_); refine zC (awake_fn) ?_
 |(with_reducible refine K_ca 12 ?_); refine zC (hli) ?_
 |(with_reducible refine K_ca 14 ?_); refine zS (a1) ?_
 |(with_reducible refine K_ca 15 ?_); refine zS (a2) ?_
 |(with_reducible refine K_ca 13 ?_); refine zC (a3) ?_
 |(with_reducible refine K_ca 16 ?_); refine zC (a4) ?_
 |(with_reducible refine K_ca 17 ?_); refine zC (a5) ?_
 |(with_reducible refine W_at ?_); (first
 |(refine W.call (sh := [_, _]) rfl bo13.h a3 rfl rfl rfl rfl rfl rfl ?_))
 |refine wA ?_
 |(refine wC ?_ ?_ <;> intro hc)
 |refine wB ?_ ?_
 |(with_reducible refine JL.block ?_)
 |(with_reducible refine F_at ?_); refine eW (vs := [(_, _)]) Tryz.results3 ?_; (focus (repeat' (first | exact oA | refine oB ?_ | refine oC ?_ ?_ | fail)))
 |exact oM
 |fail)
      all_goals first | rfl | (exfalso; omega) | trace_state
   ·refine startW (tm := [(0, _), (1, _), (2, _)]) Tryz.func3 rfl Tryz.ntmps3 rfl rfl rfl rfl ?_
    repeat' (first
 |(with_reducible refine K_ca 10 ?_); refine zC (hof) ?_
 |(with_reducible refine K_ca 11 ?_); refine zC (awake_fn) ?_
 |(with_reducible refine K_ca 12 ?_); refine zC (hli) ?_
 |refine wA ?_
 |(refine wC ?_ ?_ <;> intro hc)
 |refine wB ?_ ?_
 |(with_reducible refine JL.block ?_)
 |(with_reducible refine F_at ?_); refine eW (vs := [(_, _)]) Tryz.results3 ?_; (focus (repeat' (first | exact oA | refine oB ?_ | refine oC ?_ ?_ | fail)))
 |exact oM
 |fail)
    all_goals first | rfl | (exfalso; omega) | trace_state
  ·refine startW (tm := [(0, _), (1, _), (2, _)]) Tryz.func3 rfl Tryz.ntmps3 rfl rfl rfl rfl ?_
   repeat' (first
 |(with_reducible refine K_ca 10 ?_); refine zC (hof) ?_
 |(with_reducible refine K_ca 11 ?_); refine zC (awake_fn) ?_
 |(with_reducible refine K_ca 12 ?_); refine zC (hli) ?_
 |refine wA ?_
 |(refine wC ?_ ?_ <;> intro hc)
 |refine wB ?_ ?_
 |(with_reducible refine JL.block ?_)
 |(with_reducible refine F_at ?_); refine eW (vs := [(_, _)]) Tryz.results3 ?_; (focus (repeat' (first | exact oA | refine oB ?_ | refine oC ?_ ?_ | fail)))
 |exact oM
 |fail)
   all_goals first | rfl | (exfalso; omega) | trace_state
end Go.Proofs.YtdpeoolildjohaaGreatDoor

namespace Go.Proofs.YtdpeoolildjohaaGreatDoor
open Go.ChangeShapes Go.WideShapes Go.ChangeAt Go.RowKit Go.Joins Go.Deep
set_option linter.unusedSimpArgs false
set_option linter.unusedVariables false
set_option maxRecDepth 100000
theorem controllerNew_lifted (os : Os) (started : os.Started) (H : Type) (enc : TypeId × Value → H) :
    ReturnsInHanded {} Tryz.checked os 3 .any (fun w args => (Rows.controllerNewSpec.pre enc Tryz.prog Tryz.f3 [] false w args ∧ laidMetH Tryz.prog Rows.controllerNewRow.laid w) ∧ sizedMet enc Tryz.prog Tryz.f3 (OpenSpec.ofChange Rows.controllerNewSpec) false w args)
     (Rows.controllerNewSpec.post enc Tryz.prog Tryz.f3 false true false false) := by
 refine returnsInHanded_of_change_and (C := Tryz.checked) (X := fun w _ => laidMetH Tryz.prog Rows.controllerNewRow.laid w) (fun _ _ _ hh h => h.of_heap hh) own started (by kernel_rfl) Tryz.func3
  (ChangeSpec.witness_shaped (enc := enc) (C := Tryz.checked) (os := os) (X := fun w _ => laidMetH Tryz.prog Rows.controllerNewRow.laid w) false (World.laidAll Tryz.prog os Rows.controllerNewRow.laid) #[.agg #[.slice none 0 0, .slice none 0 0, .slice none 0 0, .slice none 0 0], .slice none 0 0, .slice none 0 0] 8 rfl (World.shaped_of_ZipB (by kernel_rfl) (by kernel_rfl)) (by kernel_rfl) (by kernel_rfl) (by kernel_rfl)
   (by rw [MakeChecks.laidMetH_plain _ _ _ (by kernel_rfl)]; exact laidMet_laidAll _ (by kernel_rfl) (by kernel_rfl))) ?_
 intro W base args ds gs before hval hW hcnd hsz hL _
 have hW' := hW
 obtain ⟨p, q, hA0, hV, rfl, hfz, hnd⟩ := hW
 have hval' : ∀ (j : Nat) t v, Tryz.f3.params[j]? = some t → args[j]? = some v → Value.okWide Tryz.prog W .any base t v := hval
 have hA : DataW.TrodAll enc Tryz.prog W 0 (fun _ => true) true Tryz.f3.params.toList args.toList ds p := hA0
 rw [Tryz.params3] at hA hval'
 obtain ⟨v0, vs0, d0, ds0, p0, q0, hargs, rfl, rfl, h0, r0⟩ := trodAll_cons hA
 obtain ⟨v1, vs1, d1, ds1, p1, q1, rfl, rfl, rfl, h1, r1⟩ := trodAll_cons r0
 obtain ⟨v2, vs2, d2, ds2, p2, q2, rfl, rfl, rfl, h2, r2⟩ := trodAll_cons r1
 obtain ⟨rfl, rfl, rfl⟩ := trodAll_nil r2
 obtain rfl : args = #[v0, v1, v2] := by cases args; simp_all
 obtain ⟨x0, a0, s0⟩ := open_draftA (S := S0) S0_all (hval' 0 25 v0 rfl rfl) (sz_arg hsz (j := 0) (t := 25) rfl rfl) h0
 obtain ⟨x1, a1⟩ := open_intsA (S := S0) S0_all (hval' 1 26 v1 rfl rfl) (sz_arg hsz (j := 1) (t := 26) rfl rfl) h1
 obtain ⟨x2, a2⟩ := open_stepsA (S := S0) S0_all (hval' 2 27 v2 rfl rfl) (sz_arg hsz (j := 2) (t := 27) rfl rfl) h2
 have hC := calls_of_fn (xs := [(true, draftC x0), (false, [.d (.sl 1 (dInts x1))]), (false, [.d (.sl 3 (dSteps x2))])]) (vals := [v0, v1, v2]) (w := W) (new_law x0 x1 x2 s0) rfl (fun i y hy => match i, hy with
  | 0, hy => by cases hy; exact a0 ρ0 _
  | 1, hy => by cases hy; exact a1 ρ0 _
  | 2, hy => by cases hy; exact a2 ρ0 _
  | _ + 3, hy => by cases hy)
 exact hC.mono fun e W' ⟨he, hb⟩ => ⟨_, he, law_post rfl laid (by kernel_rfl) (by kernel_rfl) Tryz.underlying4 hW' rfl hb⟩
theorem controllerNew_row : Rows.ControllerNewSaid :=
 OpenClaim.holds_of_wide 3 Tryz.f3 rfl rfl rfl rfl rfl rfl rfl ⟨rfl, rfl, rfl, rfl, rfl⟩ rfl rfl rfl rfl rfl (by kernel_rfl) Tryz.func3 (by kernel_rfl)
  (of_decide_eq_true (by kernel_rfl)) (by unfold Func.isWrapper; first | (rw [if_pos (by decide +kernel)]; kernel_rfl) | (rw [if_neg (by decide +kernel)]; exact ⟨rfl, rfl⟩))
  (fun os started H enc _ => controllerNew_lifted os started H enc)
theorem controllerNewCard_holds : Rows.ControllerNewCardSaid :=
 Claim7.holds_tied_plain_at .later [] [.data, .data, .data] true Rows.controllerNewCard.stood.harness false
  controllerNew_row (fun _ h => by cases h) (by kernel_rfl) (fun _ h => by cases h) controllerNew_row_tie rfl ⟨rfl, rfl⟩ (by kernel_rfl) rfl
  (fun f fn hf hfn => by
   obtain rfl : f = 3 := Option.some.inj ((show Tryz.prog.funcNamed Rows.controllerNewRow.func = some 3 by kernel_rfl).symm.trans hf) |>.symm
   obtain rfl : fn = Tryz.f3 := (Option.some.inj (Tryz.func3.symm.trans hfn)).symm
   exact ⟨by kernel_rfl, fun j t ht => by
    rw [Tryz.params3] at ht
    have hm : t ∈ [25, 26, 27] := by simpa using Array.mem_of_getElem? ht
    have hall : ([25, 26, 27].all fun u => !Tryz.prog.wantsStandIn u) = true := by kernel_rfl
    exact (show Tryz.prog.wantsStandIn t = false by simpa using List.all_eq_true.1 hall t hm)⟩)
  (by kernel_rfl)
#print axioms controllerNewCard_holds
end Go.Proofs.YtdpeoolildjohaaGreatDoor

