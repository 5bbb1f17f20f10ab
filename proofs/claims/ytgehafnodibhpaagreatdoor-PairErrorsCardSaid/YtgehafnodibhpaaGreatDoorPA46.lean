/- Rows.PairErrorsCardSaid: for all versions and links the law returns true and leaves its arguments as they were. Condition (the card's own): the listed tables of Go's library hold what the program's text lays; no call of the outside fails, and only the clock moves. -/
import Derived.Clock
import Derived.LaidMore
import Derived.LaidOnce
import Derived.Lay
import Derived.OpenShut
import Derived.OpenVars
import Derived.SevenTiedAt
import Derived.Stop.Joined
import Derived.Stop.LaidErr
import Derived.Test.YtgehafnodibhpaaGreatDoorCards
import Derived.Test.YtgehafnodibhpaaGreatDoorPA36
import Derived.Test.YtgehafnodibhpaaGreatDoorPA43
import Derived.Test.YtgehafnodibhpaaGreatDoorPA44
import Derived.Test.YtgehafnodibhpaaGreatDoorPA45
import Derived.Test.YtgehafnodibhpaaGreatDoorTie
namespace Go.Proofs.YtgehafnodibhpaaGreatDoor
open Go.ChangeShapes Go.WideShapes Go.ChangeAt Go.RowKit Go.Joins Go.Deep Go.Clock
set_option linter.unusedSimpArgs false
set_option linter.unusedVariables false
set_option maxRecDepth 100000
theorem pairErrors_lifted (os : Os) (started : os.Started) (H : Type) (enc : TypeId × Value → H) (F : Stop.Interp) :
    ReturnsInHanded { calm := true } Tryz.checked os 3 .any (fun w args => (Rows.pairErrorsSpec.pre enc Tryz.prog Tryz.f3 [] false w args ∧ laidMetH Tryz.prog Rows.pairErrorsRow.laid w) ∧ sizedMet enc Tryz.prog Tryz.f3 (OpenSpec.ofChange Rows.pairErrorsSpec) false w args)
     ((OpenSpec.ofChange Rows.pairErrorsSpec).postWith enc Tryz.prog Tryz.f3 F (outsideKept [.timePasses]) false true false) := by
 refine returns_of_change (C := Tryz.checked) (X := fun w _ => laidMetH Tryz.prog Rows.pairErrorsRow.laid w) (fun _ _ _ hh h => h.of_heap hh) own started (by kernel_rfl) Tryz.func3
  (witness_at (enc := enc) (C := Tryz.checked) (X := fun w _ => laidMetH Tryz.prog Rows.pairErrorsRow.laid w) (World.laidAll Tryz.prog os Rows.pairErrorsRow.laid) #[.agg #[.string ByteArray.empty, .slice none 0 0, .slice none 0 0, .slice none 0 0, .slice none 0 0], .agg #[.string ByteArray.empty, .slice none 0 0, .slice none 0 0, .slice none 0 0, .slice none 0 0], .agg #[.int .i64 0, .string ByteArray.empty, .int .i64 0, .int .i64 0, .bool false, .int .i64 0]] 8 (World.laidAll_os _ _ _) (World.shaped_of_ZipB (by kernel_rfl) (by kernel_rfl)) (by kernel_rfl) (by kernel_rfl) (by kernel_rfl)
   (by rw [MakeChecks.laidMetH_plain _ _ _ (by kernel_rfl)]; exact laidMet_laidAll _ (by kernel_rfl) (by kernel_rfl))) ?_
 intro W base args ds gs before hval hW hcnd hsz hL _
 have hW' := hW
 obtain ⟨p, q, hA0, hV, rfl, hfz, hnd⟩ := hW
 have hval' : ∀ (j : Nat) t v, Tryz.f3.params[j]? = some t → args[j]? = some v → Value.okWide Tryz.prog W .any base t v := hval
 have hA : DataW.TrodAll enc Tryz.prog W 0 (fun _ => true) true Tryz.f3.params.toList args.toList ds p := hA0
 rw [Tryz.params3] at hA hval'
 obtain ⟨v0, vs0, d0, ds0, p0, q0, hargs, rfl, rfl, h0, r0⟩ := trodAll_cons hA
 obtain ⟨v1, vs1, d1, ds1, p1, q1, rfl, rfl, rfl, h1, r1⟩ := trodAll_cons r0
 obtain ⟨v2, vs2, d2, ds2, p2, q2, rfl, rfl, rfl, h2, r2⟩ := trodAll_cons r1
 obtain ⟨rfl, rfl, rfl⟩ := trodAll_nil r2
 obtain rfl : args = #[v0, v1, v2] := by cases args; simp_all
 obtain ⟨x0, a0, s0⟩ := open_ver (S := S0) S0_all (hval' 0 29 v0 rfl rfl) (sz_arg hsz (j := 0) (t := 29) rfl rfl) h0
 obtain ⟨x1, a1, s1⟩ := open_ver (S := S0) S0_all (hval' 1 29 v1 rfl rfl) (sz_arg hsz (j := 1) (t := 29) rfl rfl) h1
 obtain ⟨x2, a2⟩ := open_link (S := S0) S0_all (hval' 2 31 v2 rfl rfl) (sz_arg hsz (j := 2) (t := 31) rfl rfl) h2
 have hC := calls_of_fn (xs := [(true, verC x0), (true, verC x1), (true, whrC x2)]) (vals := [v0, v1, v2]) (w := W) (pairErrors_law x0 x1 s0 s1 x2) rfl (fun i x hx => match i, hx with
  | 0, hx => by cases hx; exact a0 ρ0 _
  | 1, hx => by cases hx; exact a1 ρ0 _
  | 2, hx => by cases hx; exact a2 ρ0 _
  | _ + 3, hx => by cases hx)
 refine hC.mono fun e W' ⟨he, hb⟩ => ⟨_, he, ?_, by rw [hb.os]; exact Later.refl _⟩
 have hp : ChangeSpec.post enc Tryz.prog Tryz.f3 Rows.pairErrorsSpec false true false false W #[v0, v1, v2] (.bool true) W' := law_post rfl laid (by kernel_rfl) (by kernel_rfl) Tryz.underlying4 hW' rfl hb
 have he' : ({ W' with os := W.os } : World) = W' := by rw [← hb.os]
 rw [he']
 exact hp
theorem pairErrors_row : Rows.PairErrorsSaid :=
 holds_of_wide_time 3 Tryz.f3 rfl rfl rfl rfl rfl rfl rfl ⟨rfl, rfl, rfl, rfl, rfl⟩ rfl rfl rfl rfl rfl (by kernel_rfl) Tryz.func3 pairErrors_joined
  (of_decide_eq_true pairErrors_inst) (by unfold Func.isWrapper; first | (rw [if_pos (by decide +kernel)]; kernel_rfl) | (rw [if_neg (by decide +kernel)]; exact ⟨rfl, rfl⟩))
  (fun os started H enc _ F => pairErrors_lifted os started H enc F )
theorem pairErrorsCard_holds : Rows.PairErrorsCardSaid :=
 Claim7.holds_tied_plain_at .later [] [.data, .data, .data] true Rows.pairErrorsCard.stood.harness false
  pairErrors_row (fun _ h => by cases h) (by kernel_rfl) (fun _ h => by cases h) pairErrors_row_tie rfl ⟨rfl, rfl⟩ (by kernel_rfl) rfl
  (fun f fn hf hfn => by
   obtain rfl : f = 3 := Option.some.inj ((show Tryz.prog.funcNamed Rows.pairErrorsRow.func = some 3 by kernel_rfl).symm.trans hf) |>.symm
   obtain rfl : fn = Tryz.f3 := (Option.some.inj (Tryz.func3.symm.trans hfn)).symm
   exact ⟨pairErrors_looks, fun j t ht => by
    rw [Tryz.params3] at ht
    have hm : t ∈ [29, 29, 31] := by simpa using Array.mem_of_getElem? ht
    have hall : ([29, 29, 31].all fun u => !Tryz.prog.wantsStandIn u) = true := by kernel_rfl
    exact (show Tryz.prog.wantsStandIn t = false by simpa using List.all_eq_true.1 hall t hm)⟩)
  pairErrors_goes
#print axioms pairErrorsCard_holds
end Go.Proofs.YtgehafnodibhpaaGreatDoor

