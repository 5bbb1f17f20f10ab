/-
  Rows.FleetRestrictCardSaid: for every input the law returns true and leaves its arguments as they were. Condition (the card's own): the listed tables of Go's library hold what the program's text lays. Printed by wip/tools/mkrow.py.
-/
import Derived.Test.YtliooohflhogpaaGreatDoorRowD
import Derived.Test.YtliooohflhogpaaGreatDoorFlN
import Derived.Test.YtliooohflhogpaaGreatDoorFlM2
import Derived.Test.YtliooohflhogpaaGreatDoorFcR
import Derived.Test.YtliooohflhogpaaGreatDoorCards
import Derived.Test.YtliooohflhogpaaGreatDoorTie
import Derived.LaidMore
import Derived.Stop.Joined
import Derived.Stop.LaidErr
import Derived.Lay
import Derived.SevenTiedAt
namespace Go.Proofs.YtliooohflhogpaaGreatDoor
open Go.ChangeShapes Go.WideShapes Go.ChangeAt Go.RowKit Go.Joins Go.Deep
set_option linter.unusedSimpArgs false
set_option linter.unusedVariables false
set_option maxRecDepth 100000
theorem fleetRestrict_lifted (os : Os) (started : os.Started) (H : Type) (enc : TypeId × Value → H) :
    ReturnsInHanded {} Tryz.checked os 4 .any (fun w args => (Rows.fleetRestrictSpec.pre enc Tryz.prog Tryz.f4 [] false w args ∧ laidMetH Tryz.prog Rows.fleetRestrictRow.laid w) ∧ sizedMet enc Tryz.prog Tryz.f4 (OpenSpec.ofChange Rows.fleetRestrictSpec) false w args)
      (Rows.fleetRestrictSpec.post enc Tryz.prog Tryz.f4 false true false false) := by
  refine returnsInHanded_of_change_and (C := Tryz.checked) (X := fun w _ => laidMetH Tryz.prog Rows.fleetRestrictRow.laid w) (fun _ _ _ hh h => h.of_heap hh) own started (by kernel_rfl) Tryz.func4
    (ChangeSpec.witness_shaped (enc := enc) (C := Tryz.checked) (os := os) (X := fun w _ => laidMetH Tryz.prog Rows.fleetRestrictRow.laid w) false (World.laidAll Tryz.prog os Rows.fleetRestrictRow.laid) #[.agg #[.slice none 0 0, .slice none 0 0, .slice none 0 0, .slice none 0 0], .slice none 0 0] 8 rfl (World.shaped_of_ZipB (by kernel_rfl) (by kernel_rfl)) (by kernel_rfl) (by kernel_rfl) (by kernel_rfl)
      (by rw [MakeChecks.laidMetH_plain _ _ _ (by kernel_rfl)]; exact laidMet_laidAll _ (by kernel_rfl) (by kernel_rfl))) ?_
  intro W base args ds gs before hval hW hcnd hsz hL _
  have hW' := hW
  obtain ⟨p, q, hA0, hV, rfl, hfz, hnd⟩ := hW
  have hval' : ∀ (j : Nat) t v, Tryz.f4.params[j]? = some t → args[j]? = some v → Value.okWide Tryz.prog W .any base t v := hval
  have hA : DataW.TrodAll enc Tryz.prog W 0 (fun _ => true) true Tryz.f4.params.toList args.toList ds p := hA0
  rw [Tryz.params4] at hA hval'
  obtain ⟨v0, vs0, d0, ds0, p0, q0, hargs, rfl, rfl, h0, r0⟩ := trodAll_cons hA
  obtain ⟨v1, vs1, d1, ds1, p1, q1, rfl, rfl, rfl, h1, r1⟩ := trodAll_cons r0
  obtain ⟨rfl, rfl, rfl⟩ := trodAll_nil r1
  obtain rfl : args = #[v0, v1] := by cases args; simp_all
  obtain ⟨x0, a0, s0⟩ := open_probD (S := S0) S0_all (hval' 0 25 v0 rfl rfl) (sz_arg hsz (j := 0) (t := 25) rfl rfl) h0
  obtain ⟨x1, a1, s1⟩ := open_intsA (S := S0) S0_all (hval' 1 22 v1 rfl rfl) (sz_arg hsz (j := 1) (t := 22) rfl rfl) h1
  have hC := calls_of_fn (xs := [(true, probC x0), (false, [.d (.sl 1 (dInts x1))])]) (vals := [v0, v1]) (w := W) (restrict_law x0 x1 (sm_of s0) (le_of s1)) rfl (fun i x hx => match i, hx with
    | 0, hx => by cases hx; exact a0 ρ0 _
    | 1, hx => by cases hx; exact a1 ρ0 _
    | _ + 2, hx => by cases hx)
  refine hC.mono fun e W' ⟨he, hb⟩ => ⟨_, he, law_post rfl laid (by kernel_rfl) (by kernel_rfl) Tryz.underlying4 hW' rfl hb⟩
theorem fleetRestrict_row : Rows.FleetRestrictSaid :=
  OpenClaim.holds_of_wide 4 Tryz.f4 rfl rfl rfl rfl rfl rfl rfl ⟨rfl, rfl, rfl, rfl, rfl⟩ rfl rfl rfl rfl rfl (by kernel_rfl) Tryz.func4 fleetRestrict_joined
    (of_decide_eq_true fleetRestrict_inst) (by unfold Func.isWrapper; first | (rw [if_pos (by decide +kernel)]; kernel_rfl) | (rw [if_neg (by decide +kernel)]; exact ⟨rfl, rfl⟩))
    (fun os started H enc _ => fleetRestrict_lifted os started H enc )
theorem fleetRestrictCard_holds : Rows.FleetRestrictCardSaid :=
  Claim7.holds_tied_plain_at .later [] [.data, .data, .data] true Rows.fleetRestrictCard.stood.harness false
    fleetRestrict_row (fun _ h => by cases h) (by kernel_rfl) (fun _ h => by cases h) fleetRestrict_row_tie rfl ⟨rfl, rfl⟩ (by kernel_rfl) rfl
    (fun f fn hf hfn => by
      obtain rfl : f = 4 := Option.some.inj ((show Tryz.prog.funcNamed Rows.fleetRestrictRow.func = some 4 by kernel_rfl).symm.trans hf) |>.symm
      obtain rfl : fn = Tryz.f4 := (Option.some.inj (Tryz.func4.symm.trans hfn)).symm
      exact ⟨fleetRestrict_looks, fun j t ht => by
        rw [Tryz.params4] at ht
        have hm : t ∈ [25, 22] := by simpa using Array.mem_of_getElem? ht
        have hall : ([25, 22].all fun u => !Tryz.prog.wantsStandIn u) = true := by kernel_rfl
        exact (show Tryz.prog.wantsStandIn t = false by simpa using List.all_eq_true.1 hall t hm)⟩)
    fleetRestrict_goes
#print axioms fleetRestrictCard_holds
end Go.Proofs.YtliooohflhogpaaGreatDoor
