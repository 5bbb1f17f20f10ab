/-
  Rows.FleetAgainCardSaid: for every input the law returns true and leaves its arguments as they were. Condition (the card's own): the listed tables of Go's library hold what the program's text lays. Printed by wip/tools/mkrow.py.
-/
import Derived.Test.YtliooohflhogpaaGreatDoorRowD
import Derived.Test.YtliooohflhogpaaGreatDoorFlN
import Derived.Test.YtliooohflhogpaaGreatDoorFlND
import Derived.Test.YtliooohflhogpaaGreatDoorFlAg
import Derived.Test.YtliooohflhogpaaGreatDoorFcA
import Derived.Test.YtliooohflhogpaaGreatDoorCards
import Derived.Test.YtliooohflhogpaaGreatDoorTie
import Derived.LaidMore
import Derived.Stop.Joined
import Derived.Stop.LaidErr
import Derived.Lay
import Derived.SevenTiedAt
namespace Go.Proofs.YtliooohflhogpaaGreatDoor
open Go.ChangeShapes Go.WideShapes Go.ChangeAt Go.RowKit Go.Joins Go.Deep
set_option linter.unusedSimpArgs false
set_option linter.unusedVariables false
set_option maxRecDepth 100000
theorem fleetAgain_lifted (os : Os) (started : os.Started) (H : Type) (enc : TypeId × Value → H) :
    ReturnsInHanded {} Tryz.checked os 6 .any (fun w args => (Rows.fleetAgainSpec.pre enc Tryz.prog Tryz.f6 [] false w args ∧ laidMetH Tryz.prog Rows.fleetAgainRow.laid w) ∧ sizedMet enc Tryz.prog Tryz.f6 (OpenSpec.ofChange Rows.fleetAgainSpec) false w args)
      (Rows.fleetAgainSpec.post enc Tryz.prog Tryz.f6 false true false false) := by
  refine returnsInHanded_of_change_and (C := Tryz.checked) (X := fun w _ => laidMetH Tryz.prog Rows.fleetAgainRow.laid w) (fun _ _ _ hh h => h.of_heap hh) own started (by kernel_rfl) Tryz.func6
    (ChangeSpec.witness_shaped (enc := enc) (C := Tryz.checked) (os := os) (X := fun w _ => laidMetH Tryz.prog Rows.fleetAgainRow.laid w) false (World.laidAll Tryz.prog os Rows.fleetAgainRow.laid) #[.agg #[.slice none 0 0, .slice none 0 0, .slice none 0 0, .slice none 0 0], .int .u8 0, .int .u8 0] 8 rfl (World.shaped_of_ZipB (by kernel_rfl) (by kernel_rfl)) (by kernel_rfl) (by kernel_rfl) (by kernel_rfl)
      (by rw [MakeChecks.laidMetH_plain _ _ _ (by kernel_rfl)]; exact laidMet_laidAll _ (by kernel_rfl) (by kernel_rfl))) ?_
  intro W base args ds gs before hval hW hcnd hsz hL _
  have hW' := hW
  obtain ⟨p, q, hA0, hV, rfl, hfz, hnd⟩ := hW
  have hval' : ∀ (j : Nat) t v, Tryz.f6.params[j]? = some t → args[j]? = some v → Value.okWide Tryz.prog W .any base t v := hval
  have hA : DataW.TrodAll enc Tryz.prog W 0 (fun _ => true) true Tryz.f6.params.toList args.toList ds p := hA0
  rw [Tryz.params6] at hA hval'
  obtain ⟨v0, vs0, d0, ds0, p0, q0, hargs, rfl, rfl, h0, r0⟩ := trodAll_cons hA
  obtain ⟨v1, vs1, d1, ds1, p1, q1, rfl, rfl, rfl, h1, r1⟩ := trodAll_cons r0
  obtain ⟨v2, vs2, d2, ds2, p2, q2, rfl, rfl, rfl, h2, r2⟩ := trodAll_cons r1
  obtain ⟨rfl, rfl, rfl⟩ := trodAll_nil r2
  obtain rfl : args = #[v0, v1, v2] := by cases args; simp_all
  obtain ⟨x0, a0, s0⟩ := open_draftD (S := S0) S0_all (hval' 0 40 v0 rfl rfl) (sz_arg hsz (j := 0) (t := 40) rfl rfl) h0
  obtain ⟨x1, a1, s1⟩ := open_u8A (S := S0) S0_all (hval' 1 5 v1 rfl rfl) (sz_arg hsz (j := 1) (t := 5) rfl rfl) h1
  obtain ⟨x2, a2, s2⟩ := open_u8A (S := S0) S0_all (hval' 2 5 v2 rfl rfl) (sz_arg hsz (j := 2) (t := 5) rfl rfl) h2
  have hC := calls_of_fn (xs := [(true, draftC x0), (false, [.d (.v (.int .u8 x1))]), (false, [.d (.v (.int .u8 x2))])]) (vals := [v0, v1, v2]) (w := W) (again_law x0 x1 x2 s0 s1 s2) rfl (fun i x hx => match i, hx with
    | 0, hx => by cases hx; exact a0 ρ0 _
    | 1, hx => by cases hx; exact a1 ρ0 _
    | 2, hx => by cases hx; exact a2 ρ0 _
    | _ + 3, hx => by cases hx)
  refine hC.mono fun e W' ⟨he, hb⟩ => ⟨_, he, law_post rfl laid (by kernel_rfl) (by kernel_rfl) Tryz.underlying4 hW' rfl hb⟩
theorem fleetAgain_row : Rows.FleetAgainSaid :=
  OpenClaim.holds_of_wide 6 Tryz.f6 rfl rfl rfl rfl rfl rfl rfl ⟨rfl, rfl, rfl, rfl, rfl⟩ rfl rfl rfl rfl rfl (by kernel_rfl) Tryz.func6 fleetAgain_joined
    (of_decide_eq_true fleetAgain_inst) (by unfold Func.isWrapper; first | (rw [if_pos (by decide +kernel)]; kernel_rfl) | (rw [if_neg (by decide +kernel)]; exact ⟨rfl, rfl⟩))
    (fun os started H enc _ => fleetAgain_lifted os started H enc )
theorem fleetAgainCard_holds : Rows.FleetAgainCardSaid :=
  Claim7.holds_tied_plain_at .later [] [.data, .data, .data] true Rows.fleetAgainCard.stood.harness false
    fleetAgain_row (fun _ h => by cases h) (by kernel_rfl) (fun _ h => by cases h) fleetAgain_row_tie rfl ⟨rfl, rfl⟩ (by kernel_rfl) rfl
    (fun f fn hf hfn => by
      obtain rfl : f = 6 := Option.some.inj ((show Tryz.prog.funcNamed Rows.fleetAgainRow.func = some 6 by kernel_rfl).symm.trans hf) |>.symm
      obtain rfl : fn = Tryz.f6 := (Option.some.inj (Tryz.func6.symm.trans hfn)).symm
      exact ⟨fleetAgain_looks, fun j t ht => by
        rw [Tryz.params6] at ht
        have hm : t ∈ [40, 5, 5] := by simpa using Array.mem_of_getElem? ht
        have hall : ([40, 5, 5].all fun u => !Tryz.prog.wantsStandIn u) = true := by kernel_rfl
        exact (show Tryz.prog.wantsStandIn t = false by simpa using List.all_eq_true.1 hall t hm)⟩)
    fleetAgain_goes
#print axioms fleetAgainCard_holds
end Go.Proofs.YtliooohflhogpaaGreatDoor
