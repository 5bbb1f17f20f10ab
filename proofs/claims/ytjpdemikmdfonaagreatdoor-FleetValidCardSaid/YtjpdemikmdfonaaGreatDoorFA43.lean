/- Rows.FleetValidCardSaid: for every fleet the law returns true and leaves its argument as it was. Condition (the card's own): the listed tables of Go's library hold what the program's text lays; no call of the outside fails, and only the clock moves. -/
import Derived.Clock
import Derived.LaidMore
import Derived.LaidOnce
import Derived.Lay
import Derived.OpenShut
import Derived.OpenVars
import Derived.SevenTiedAt
import Derived.Stop.Joined
import Derived.Stop.LaidErr
import Derived.Test.YtjpdemikmdfonaaGreatDoorCards
import Derived.Test.YtjpdemikmdfonaaGreatDoorFA25
import Derived.Test.YtjpdemikmdfonaaGreatDoorFA40
import Derived.Test.YtjpdemikmdfonaaGreatDoorFA41
import Derived.Test.YtjpdemikmdfonaaGreatDoorFA42
import Derived.Test.YtjpdemikmdfonaaGreatDoorTie
namespace Go.Proofs.YtjpdemikmdfonaaGreatDoor
open Go.ChangeShapes Go.WideShapes Go.ChangeAt Go.RowKit Go.Joins Go.Deep Go.Clock
set_option linter.unusedSimpArgs false
set_option linter.unusedVariables false
set_option maxRecDepth 100000
theorem fleetValid_lifted (os : Os) (started : os.Started) (H : Type) (enc : TypeId × Value → H) (F : Stop.Interp) :
    ReturnsInHanded { calm := true } Tryz.checked os 3 .any (fun w args => (Rows.fleetValidSpec.pre enc Tryz.prog Tryz.f3 [] false w args ∧ laidMetH Tryz.prog Rows.fleetValidRow.laid w) ∧ sizedMet enc Tryz.prog Tryz.f3 (OpenSpec.ofChange Rows.fleetValidSpec) false w args)
     ((OpenSpec.ofChange Rows.fleetValidSpec).postWith enc Tryz.prog Tryz.f3 F (outsideKept [.timePasses]) false true false) := by
 refine returns_of_change (C := Tryz.checked) (X := fun w _ => laidMetH Tryz.prog Rows.fleetValidRow.laid w) (fun _ _ _ hh h => h.of_heap hh) own started (by kernel_rfl) Tryz.func3
  (witness_at (enc := enc) (C := Tryz.checked) (X := fun w _ => laidMetH Tryz.prog Rows.fleetValidRow.laid w) (World.laidAll Tryz.prog os Rows.fleetValidRow.laid) #[.agg #[.slice none 0 0, .slice none 0 0]] 8 (World.laidAll_os _ _ _) (World.shaped_of_ZipB (by kernel_rfl) (by kernel_rfl)) (by kernel_rfl) (by kernel_rfl) (by kernel_rfl)
   (by rw [MakeChecks.laidMetH_plain _ _ _ (by kernel_rfl)]; exact laidMet_laidAll _ (by kernel_rfl) (by kernel_rfl))) ?_
 intro W base args ds gs before hval hW hcnd hsz hL _
 have hW' := hW
 obtain ⟨p, q, hA0, hV, rfl, hfz, hnd⟩ := hW
 have hval' : ∀ (j : Nat) t v, Tryz.f3.params[j]? = some t → args[j]? = some v → Value.okWide Tryz.prog W .any base t v := hval
 have hA : DataW.TrodAll enc Tryz.prog W 0 (fun _ => true) true Tryz.f3.params.toList args.toList ds p := hA0
 rw [Tryz.params3] at hA hval'
 obtain ⟨v0, vs0, d0, ds0, p0, q0, hargs, rfl, rfl, h0, r0⟩ := trodAll_cons hA
 obtain ⟨rfl, rfl, rfl⟩ := trodAll_nil r0
 obtain rfl : args = #[v0] := by cases args; simp_all
 obtain ⟨s0, l0, a0, q0⟩ := open_flt (S := S0) S0_all (hval' 0 25 v0 rfl rfl) (sz_arg hsz (j := 0) (t := 25) rfl rfl) h0
 have hC := calls_of_fn (xs := [(true, fltC s0 l0)]) (vals := [v0]) (w := W) (fleetValid_law s0 l0 q0) rfl (fun i x hx => match i, hx with
  | 0, hx => by cases hx; exact a0 ρ0 _
  | _ + 1, hx => by cases hx)
 refine hC.mono fun e W' ⟨he, hb⟩ => ⟨_, he, ?_, by rw [hb.os]; exact Later.refl _⟩
 have hp : ChangeSpec.post enc Tryz.prog Tryz.f3 Rows.fleetValidSpec false true false false W #[v0] (.bool true) W' := law_post rfl laid (by kernel_rfl) (by kernel_rfl) Tryz.underlying4 hW' rfl hb
 have he' : ({ W' with os := W.os } : World) = W' := by rw [← hb.os]
 rw [he']
 exact hp
theorem fleetValid_row : Rows.FleetValidSaid :=
 holds_of_wide_time 3 Tryz.f3 rfl rfl rfl rfl rfl rfl rfl ⟨rfl, rfl, rfl, rfl, rfl⟩ rfl rfl rfl rfl rfl (by kernel_rfl) Tryz.func3 fleetValid_joined
  (of_decide_eq_true fleetValid_inst) (by unfold Func.isWrapper; first | (rw [if_pos (by decide +kernel)]; kernel_rfl) | (rw [if_neg (by decide +kernel)]; exact ⟨rfl, rfl⟩))
  (fun os started H enc _ F => fleetValid_lifted os started H enc F )
theorem fleetValidCard_holds : Rows.FleetValidCardSaid :=
 Claim7.holds_tied_plain_at .later [] [.data, .data, .data] true Rows.fleetValidCard.stood.harness false
  fleetValid_row (fun _ h => by cases h) (by kernel_rfl) (fun _ h => by cases h) fleetValid_row_tie rfl ⟨rfl, rfl⟩ (by kernel_rfl) rfl
  (fun f fn hf hfn => by
   obtain rfl : f = 3 := Option.some.inj ((show Tryz.prog.funcNamed Rows.fleetValidRow.func = some 3 by kernel_rfl).symm.trans hf) |>.symm
   obtain rfl : fn = Tryz.f3 := (Option.some.inj (Tryz.func3.symm.trans hfn)).symm
   exact ⟨fleetValid_looks, fun j t ht => by
    rw [Tryz.params3] at ht
    have hm : t ∈ [25] := by simpa using Array.mem_of_getElem? ht
    have hall : ([25].all fun u => !Tryz.prog.wantsStandIn u) = true := by kernel_rfl
    exact (show Tryz.prog.wantsStandIn t = false by simpa using List.all_eq_true.1 hall t hm)⟩)
  fleetValid_goes
#print axioms fleetValidCard_holds
end Go.Proofs.YtjpdemikmdfonaaGreatDoor

