/- Rows.ScenarioErrorsCardSaid: for every scenario and number the law returns true and leaves its arguments as they were. Condition (the card's own): the listed tables of Go's library hold what the program's text lays; the variable sheave/manifest.kinds holds anything (the run never reads it). -/
import Derived.LaidMore
import Derived.Lay
import Derived.SevenTiedAt
import Derived.Stop.Joined
import Derived.Stop.LaidErr
import Derived.Test.YtfnljcallbalgaaGreatDoorCards
import Derived.Test.YtfnljcallbalgaaGreatDoorTie
import Derived.Test.YtfnljcallbalgaaGreatDoorUA36
import Derived.Test.YtfnljcallbalgaaGreatDoorUA37
import Derived.Test.YtfnljcallbalgaaGreatDoorUA38
import Derived.Test.YtfnljcallbalgaaGreatDoorUA39
namespace Go.Proofs.YtfnljcallbalgaaGreatDoor
open Go.ChangeShapes Go.WideShapes Go.ChangeAt Go.RowKit Go.Joins Go.Deep
set_option linter.unusedSimpArgs false
set_option linter.unusedVariables false
set_option maxRecDepth 100000
theorem scenarioErrors_lifted (os : Os) (started : os.Started) (H : Type) (enc : TypeId × Value → H) :
    ReturnsInHanded {} Tryz.checked os 3 .any (fun w args => (Rows.scenarioErrorsSpec.pre enc Tryz.prog Tryz.f3 [] false w args ∧ laidMetH Tryz.prog Rows.scenarioErrorsRow.laid w) ∧ sizedMet enc Tryz.prog Tryz.f3 (OpenSpec.ofChange Rows.scenarioErrorsSpec) false w args)
     (Rows.scenarioErrorsSpec.post enc Tryz.prog Tryz.f3 false true false false) := by
 refine handed_shaped (C := Tryz.checked) (X := fun w _ => laidMetH Tryz.prog Rows.scenarioErrorsRow.laid w) (fun _ _ _ hh h => h.of_heap hh) own started (by kernel_rfl) Tryz.func3
  (ChangeSpec.witness_shaped (enc := enc) (C := Tryz.checked) (os := os) (X := fun w _ => laidMetH Tryz.prog Rows.scenarioErrorsRow.laid w) false (World.laidAll Tryz.prog os Rows.scenarioErrorsRow.laid) #[.agg #[.slice none 0 0, .slice none 0 0, .slice none 0 0, .slice none 0 0, .slice none 0 0, .slice none 0 0, .int .i64 0, .slice none 0 0], .int .i64 0] 8 rfl (World.shaped_of_ZipB (by kernel_rfl) (by kernel_rfl)) (by kernel_rfl) (by kernel_rfl) (by kernel_rfl)
   (by rw [MakeChecks.laidMetH_plain _ _ _ (by kernel_rfl)]; exact laidMet_laidAll _ (by kernel_rfl) (by kernel_rfl))) ?_
 intro W base args ds gs before hval hW hcnd hsz hL hSh
 have hW' := hW
 obtain ⟨p, q, hA0, hV, rfl, hfz, hnd⟩ := hW
 have hval' : ∀ (j : Nat) t v, Tryz.f3.params[j]? = some t → args[j]? = some v → Value.okWide Tryz.prog W .any base t v := hval
 have hA : DataW.TrodAll enc Tryz.prog W 0 (fun _ => true) true Tryz.f3.params.toList args.toList ds p := hA0
 rw [Tryz.params3] at hA hval'
 obtain ⟨v0, vs0, d0, ds0, p0, q0, hargs, rfl, rfl, h0, r0⟩ := trodAll_cons hA
 obtain ⟨v1, vs1, d1, ds1, p1, q1, rfl, rfl, rfl, h1, r1⟩ := trodAll_cons r0
 obtain ⟨rfl, rfl, rfl⟩ := trodAll_nil r1
 obtain rfl : args = #[v0, v1] := by cases args; simp_all
 obtain ⟨x0, rs0, l0, y0, ch0, a0⟩ := open_scen (S := S0) S0_all (hval' 0 31 v0 rfl rfl) (sz_arg hsz (j := 0) (t := 31) rfl rfl) h0
 obtain ⟨n1, rfl, _, _, _⟩ := open_int Tryz.underlying3 (hval' 1 3 v1 rfl rfl) h1
 have hC := calls_of_fn (gl_shaped hSh) (xs := [(true, [.d (.sl 1 (dInts x0.vs)), .d (.sl 1 (dInts x0.now)), .d (.sl 1 (dInts x0.tgt)), .d (.sl 6 (dTabs x0.tabs)), .d (.sl 1 (dInts rs0)), .d (.sl 3 (dSteps l0)), .d (.v (.int .i64 y0)), .d (.sl 1 ch0)]), (false, [.d (.v (.int .i64 n1))])]) (vals := [v0, .int .i64 n1]) (w := W) (scenarioErrors_law x0 rs0 l0 y0 ch0 n1) rfl (fun i y hy => match i, hy with
  | 0, hy => by cases hy; exact a0 ρ0 _
  | 1, hy => by cases hy; exact ⟨[_], .cons (.v rfl) .nil, by simp⟩
  | _ + 2, hy => by cases hy)
 exact hC.mono fun e W' ⟨he, hb⟩ => ⟨_, he, law_post rfl laid (by kernel_rfl) (by kernel_rfl) Tryz.underlying4 hW' rfl hb⟩
theorem scenarioErrors_row : Rows.ScenarioErrorsSaid :=
 OpenClaim.holds_of_wide 3 Tryz.f3 rfl rfl rfl rfl rfl rfl rfl ⟨rfl, rfl, rfl, rfl, rfl⟩ rfl rfl rfl rfl rfl (by kernel_rfl) Tryz.func3 scenarioErrors_joined
  (of_decide_eq_true scenarioErrors_inst) (by unfold Func.isWrapper; first | (rw [if_pos (by decide +kernel)]; kernel_rfl) | (rw [if_neg (by decide +kernel)]; exact ⟨rfl, rfl⟩))
  (fun os started H enc _ => scenarioErrors_lifted os started H enc)
theorem scenarioErrorsCard_holds : Rows.ScenarioErrorsCardSaid :=
 Claim7.holds_tied_plain_at .later [] [.data, .data, .data, .data, .sentinel, .sentinel, .pinned] true Rows.scenarioErrorsCard.stood.harness true
  scenarioErrors_row (fun _ h => by cases h) (by kernel_rfl) (fun _ h => by cases h) scenarioErrors_row_tie rfl ⟨rfl, rfl⟩ (by kernel_rfl) rfl
  (fun f fn hf hfn => by
   obtain rfl : f = 3 := Option.some.inj ((show Tryz.prog.funcNamed Rows.scenarioErrorsRow.func = some 3 by kernel_rfl).symm.trans hf) |>.symm
   obtain rfl : fn = Tryz.f3 := (Option.some.inj (Tryz.func3.symm.trans hfn)).symm
   exact ⟨scenarioErrors_looks, fun j t ht => by
    rw [Tryz.params3] at ht
    have hm : t ∈ [31, 3] := by simpa using Array.mem_of_getElem? ht
    have hall : ([31, 3].all fun u => !Tryz.prog.wantsStandIn u) = true := by kernel_rfl
    exact (show Tryz.prog.wantsStandIn t = false by simpa using List.all_eq_true.1 hall t hm)⟩)
  scenarioErrors_goes
#print axioms scenarioErrorsCard_holds
end Go.Proofs.YtfnljcallbalgaaGreatDoor

