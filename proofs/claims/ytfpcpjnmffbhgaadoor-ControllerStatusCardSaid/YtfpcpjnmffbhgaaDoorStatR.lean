/-
  Rows.ControllerStatusCardSaid: for every state the law returns true and leaves its argument as it was. Condition (the card's own): the listed tables of Go's library hold what the program's text lays.
-/
import Derived.Test.YtfpcpjnmffbhgaaDoorStatL
import Derived.Test.YtfpcpjnmffbhgaaDoorRowC
import Derived.Test.YtfpcpjnmffbhgaaDoorCards
import Derived.Test.YtfpcpjnmffbhgaaDoorTie
import Derived.LaidMore
import Derived.Stop.Joined
import Derived.Stop.LaidErr
import Derived.Lay
import Derived.SevenTiedAt
namespace Go.Proofs.YtfpcpjnmffbhgaaDoor
open Go.ChangeShapes Go.WideShapes Go.ChangeAt Go.RowKit Go.Joins Go.Deep
set_option linter.unusedSimpArgs false
set_option linter.unusedVariables false
set_option maxRecDepth 100000
section
variable {H : Type} {enc : TypeId × Value → H} {w : World} {base : Nat} {spare : Nat → Bool} {held : Bool}
theorem open_ctl2 {r : Reach} {b0 : Nat} {v : Value} {d : DataW H} {p : List MemPlace} (hv : Value.okWide Tryd.prog w r b0 28 v) (hs : Sz Tryd.prog 28 d) (h : DataW.Trod enc Tryd.prog w base spare held 28 v d p) :
    ∃ (pA : Option Addr) (n pc : Nat) (a f r o k : Int) (v6 v7 v8 : Value), v = .agg #[.slice pA n pc, .int .i64 a, .int .i64 f, .int .i64 r, .int .i64 o, .int .i64 k, v6, v7, v8] ∧ n ≤ 4611686018427387904 ∧ I64 a ∧ I64 r ∧ I64 o ∧ I64 k := by
  have cI : Tryd.prog.cellsOf 3 = 1 := by kernel_rfl
  have cJ : Tryd.prog.cellsOf 2 = 1 := by kernel_rfl
  have cS : Tryd.prog.cellsOf 22 = 1 := by kernel_rfl
  have c9 : Tryd.prog.cellsOf 28 = 9 := by kernel_rfl
  unfold Value.okWide at hv
  rw [Tryd.underlying28] at hv
  obtain ⟨cs, rfl, hsz, _⟩ := hv
  obtain ⟨fuel, hf⟩ := h
  obtain ⟨n, hl, hfd⟩ := trod_fields Tryd.underlying28 (by exact hs) hf
  rw [c9] at hsz
  obtain ⟨cs⟩ := cs
  match cs, hsz with
  | [u0, u1, u2, u3, u4, u5, u6, u7, u8], _ =>
    obtain ⟨y0, t0, s0⟩ := hfd 0 _ rfl
    obtain ⟨y1, t1, s1⟩ := hfd 1 _ rfl
    obtain ⟨y2, t2, s2⟩ := hfd 2 _ rfl
    obtain ⟨y3, t3, s3⟩ := hfd 3 _ rfl
    obtain ⟨y4, t4, s4⟩ := hfd 4 _ rfl
    obtain ⟨y5, t5, s5⟩ := hfd 5 _ rfl
    clear hfd hf hl
    simp [cI, cJ, cS, Value.cells] at t0 t1 t2 t3 t4 t5
    obtain ⟨pA, plan, pc, rfl, lp, hp⟩ := open_steps s0 t0
    obtain ⟨z1, rfl, q1⟩ := trod_i64 Tryd.underlying3 t1
    obtain ⟨z2, rfl, q2⟩ := trod_i64 Tryd.underlying3 t2
    obtain ⟨z3, rfl, q3⟩ := trod_i64 Tryd.underlying3 t3
    obtain ⟨z4, rfl, q4⟩ := trod_i64 Tryd.underlying3 t4
    obtain ⟨z5, rfl, q5⟩ := trod_i64 Tryd.underlying2 t5
    exact ⟨pA, _, pc, z1, z2, z3, z4, z5, u6, u7, u8, rfl, lp, q1, q3, q4, q5⟩
end
/-- The table of powers, out of the row's condition. -/
theorem tab_of_laid {W : World} (h : laidMetH Tryd.prog Rows.controllerStatusRow.laid W) : TabW W := by
  rw [MakeChecks.laidMetH_plain _ _ _ (by kernel_rfl)] at h
  have h2 := h.tail.tail
  exact Lib.tabIs_of_head (g := 0) (by kernel_rfl) (by kernel_rfl) Tryd.underlying120 Tryd.underlying71 (by kernel_rfl) (by kernel_rfl) h2
set_option maxRecDepth 100000 in
theorem controllerStatus_lifted (os : Os) (started : os.Started) (H : Type) (enc : TypeId × Value → H) :
    ReturnsInHanded {} Tryd.checked os 3 .any (fun w args => (Rows.controllerStatusSpec.pre enc Tryd.prog Tryd.f3 [] false w args ∧ laidMetH Tryd.prog Rows.controllerStatusRow.laid w) ∧ sizedMet enc Tryd.prog Tryd.f3 (OpenSpec.ofChange Rows.controllerStatusSpec) false w args)
      (Rows.controllerStatusSpec.post enc Tryd.prog Tryd.f3 false true false false) := by
  refine returnsInHanded_of_change_and (C := Tryd.checked) (X := fun w _ => laidMetH Tryd.prog Rows.controllerStatusRow.laid w) (fun _ _ _ hh h => h.of_heap hh) own started (by kernel_rfl) Tryd.func3
    (ChangeSpec.witness_shaped (enc := enc) (C := Tryd.checked) (os := os) (X := fun w _ => laidMetH Tryd.prog Rows.controllerStatusRow.laid w) false (World.laidAll Tryd.prog os Rows.controllerStatusRow.laid) #[.agg #[.slice none 0 0, .int .i64 0, .int .i64 0, .int .i64 0, .int .i64 0, .int .i64 0, .slice none 0 0, .slice none 0 0, .slice none 0 0]] 8 rfl (World.shaped_of_ZipB (by kernel_rfl) (by kernel_rfl)) (by kernel_rfl) (by kernel_rfl) (by kernel_rfl)
      (by rw [MakeChecks.laidMetH_plain _ _ _ (by kernel_rfl)]; exact laidMet_laidAll _ (by kernel_rfl) (by kernel_rfl))) ?_
  intro W base args ds gs before hval hW hcnd hsz hL _
  have hW' := hW
  obtain ⟨p, q, hA0, hV, rfl, hfz, hnd⟩ := hW
  have hval' : ∀ (j : Nat) t v, Tryd.f3.params[j]? = some t → args[j]? = some v → Value.okWide Tryd.prog W .any base t v := hval
  have hA : DataW.TrodAll enc Tryd.prog W 0 (fun _ => true) true Tryd.f3.params.toList args.toList ds p := hA0
  rw [Tryd.params3] at hA hval'
  obtain ⟨v0, vs0, d0, ds0, p0, q0, hargs, rfl, rfl, h0, r0⟩ := trodAll_cons hA
  obtain ⟨rfl, rfl, rfl⟩ := trodAll_nil r0
  obtain rfl : args = #[v0] := by cases args; simp_all
  obtain ⟨pA, n, pc, a, f, r, o, k, v6, v7, v8, rfl, hn, qa, qr, qo, qk⟩ := open_ctl2 (hval' 0 28 v0 rfl rfl) (sz_arg hsz (j := 0) (t := 28) rfl rfl) h0
  refine (status_law pA n pc a f r o k v6 v7 v8 W (tab_of_laid hL) (by omega) ⟨qa.1, qa.2⟩ ⟨qr.1, qr.2⟩ ⟨qo.1, qo.2⟩ ⟨qk.1, qk.2⟩).mono fun e W' ⟨he, hb⟩ => ⟨_, he, law_post rfl laid (by kernel_rfl) (by kernel_rfl) Tryd.underlying4 hW' rfl hb⟩
theorem controllerStatus_row : Rows.ControllerStatusSaid :=
  OpenClaim.holds_of_wide 3 Tryd.f3 rfl rfl rfl rfl rfl rfl rfl ⟨rfl, rfl, rfl, rfl, rfl⟩ rfl rfl rfl rfl rfl (by kernel_rfl) Tryd.func3 (by kernel_rfl)
    (of_decide_eq_true (by kernel_rfl)) (by unfold Func.isWrapper; first | (rw [if_pos (by decide +kernel)]; kernel_rfl) | (rw [if_neg (by decide +kernel)]; exact ⟨rfl, rfl⟩))
    (fun os started H enc _ => controllerStatus_lifted os started H enc)
theorem controllerStatusCard_holds : Rows.ControllerStatusCardSaid :=
  Claim7.holds_tied_plain_at .later [] [.data, .data, .data] true Rows.controllerStatusCard.stood.harness false
    controllerStatus_row (fun _ h => by cases h) (by kernel_rfl) (fun _ h => by cases h) controllerStatus_row_tie rfl ⟨rfl, rfl⟩ (by kernel_rfl) rfl
    (fun f fn hf hfn => by
      obtain rfl : f = 3 := Option.some.inj ((show Tryd.prog.funcNamed Rows.controllerStatusRow.func = some 3 by kernel_rfl).symm.trans hf) |>.symm
      obtain rfl : fn = Tryd.f3 := (Option.some.inj (Tryd.func3.symm.trans hfn)).symm
      exact ⟨by kernel_rfl, fun j t ht => by
        rw [Tryd.params3] at ht
        have hm : t ∈ [28] := by simpa using Array.mem_of_getElem? ht
        have hall : ([28].all fun u => !Tryd.prog.wantsStandIn u) = true := by kernel_rfl
        exact (show Tryd.prog.wantsStandIn t = false by simpa using List.all_eq_true.1 hall t hm)⟩)
    (by kernel_rfl)
#print axioms controllerStatusCard_holds
end Go.Proofs.YtfpcpjnmffbhgaaDoor
