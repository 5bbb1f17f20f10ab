/- Rows.WorldErrorsCardSaid: for every setup the law returns true and leaves its argument as it was. Condition (the card's own): the listed tables of Go's library hold what the program's text lays. -/
import Derived.LaidMore
import Derived.Lay
import Derived.SevenTiedAt
import Derived.Stop.Joined
import Derived.Stop.LaidErr
import Derived.Test.YtbafhclppppkgaaGreatDoorCards
import Derived.Test.YtbafhclppppkgaaGreatDoorTie
import Derived.Test.YtbafhclppppkgaaGreatDoorVA27
import Derived.Test.YtbafhclppppkgaaGreatDoorVA34
namespace Go.Proofs.YtbafhclppppkgaaGreatDoor
open Go Go.ChangeShapes Go.WideShapes Go.ChangeAt Go.RowKit Go.Joins Go.Deep
set_option linter.unusedSimpArgs false
set_option linter.unusedVariables false
set_option maxRecDepth 100000
def ρ0 : Key → Hd := fun _ => ⟨none, none, 0, 0, 0⟩
def S0 : Nat → Prop := Im (fun _ => False) ρ0 (lk ([] : List (Key × Box)))
theorem S0_all (b : Nat) : S0 b := ⟨fun h => h, fun q box hq => by cases hq⟩
def valArgs (xs : List (Bool × List C)) : List Arg := xs.map fun x => .val x.1 x.2
theorem argTm_val : ∀ (xs : List (Bool × List C)) (i t : Nat) (av : AV), lk (argTm i (valArgs xs)) t = some av → i ≤ t ∧ ∃ x, xs[t - i]? = some x ∧ av = .one x.1 x.2
 | [], i, t, av, h => by cases h
 | x :: xs, i, t, av, h => by
  have h' : (if t = i then some (AV.one x.1 x.2) else lk (argTm (i + 1) (valArgs xs)) t) = some av := h
  split at h'
  ·rename_i e
   subst e
   cases h'
   exact ⟨Nat.le_refl _, x, by simp, rfl⟩
  ·obtain ⟨h1, y, h2, h3⟩ := argTm_val xs (i + 1) t av h'
   refine ⟨by omega, y, ?_, h3⟩
   rw [show t - i = (t - (i + 1)) + 1 by omega, List.getElem?_cons_succ]
   exact h2
theorem argBx_val : ∀ (xs : List (Bool × List C)) (i : Nat), argBx i (valArgs xs) = []
 | [], _ => rfl
 | x :: xs, i => argBx_val xs (i + 1)
theorem calls_of_fn {P : Program} {f : FuncId} {xs : List (Bool × List C)} {vals : List Value} {w : World} (h : FnSound P f (valArgs xs) [] { vals := [(false, [.d (.v (.bool true))])] }) (hl : vals.length = xs.length)
    (hv : ∀ (i : Nat) (x : Bool × List C), xs[i]? = some x → AVRel (CRel S0 ρ0 (fun q => q.2 < 1) w) (.one x.1 x.2) (vals.getD i undef)) : Calls P f vals.toArray w fun e w' => e = .returned (.bool true) ∧ Below w.heap.size w w' := by
 have := h (fun _ => False) (fun _ => False) ρ0 ρ0 w vals (by simp [valArgs, hl])
  ⟨by simp, rfl, (fun t av ht => by
   obtain ⟨_, x, h2, rfl⟩ := argTm_val xs 0 t av ht
   have h3 : xs[t]? = some x := by simpa using h2
   refine ⟨by rw [hl]; exact (List.getElem?_eq_some_iff.1 h3).1, ?_⟩
   have e1 : (⟨vals.toArray, []⟩ : Act).tmps.getD t undef = vals.getD t undef := by simp [Array.getD_eq_getD_getElem?]
   rw [e1, argBx_val]
   exact hv t x h3), (fun q box hq => by rw [argBx_val] at hq; cases hq), (fun q1 b1 q2 b2 b e1 => by rw [argBx_val] at e1; cases e1), (fun q box b hq => by rw [argBx_val] at hq; cases hq), Keep.refl _ _, (fun b hb => False.elim hb), (fun q hq => ⟨by omega, rfl⟩)⟩
 refine this.mono ?_
 rintro e w' ⟨v, ρ', rfl, hR⟩
 have h1 := (hR.tm 0 _ rfl).2
 have h2 : v = .bool true := conV_sound (av := .one false [.d (.v (.bool true))]) (x := .bool true) rfl h1
 exact ⟨by rw [h2], hR.fr.below (Nat.le_refl _) (fun b _ h => h)⟩
section
variable {H : Type} {enc : TypeId × Value → H} {w : World} {base : Nat} {spare : Nat → Bool} {held : Bool} {S : Nat → Prop}
theorem open_stepsD (hS : ∀ b, S b) {fuel : Nat} {v : Value} {x : DataW H × List MemPlace} (hs : Sz Tryz.prog 26 x.1) (hf : DataW.trod enc Tryz.prog w base spare held fuel 26 [v] = some x) : ∃ l : List StepD, Rd S w (.sl 3 (dSteps l)) v := by
 have cI : Tryz.prog.cellsOf 3 = 1 := by kernel_rfl
 obtain ⟨l, h1, _, _⟩ := open_rd (S := S) hS stepRow (fun _ => True) Tryz.underlying26 (k := 3) (by kernel_rfl) (by decide) hs (by kernel_rfl) hf (fun cs y m hl ht hsy => by
  obtain ⟨n', _, hfd⟩ := trod_fields Tryz.underlying66 hsy ht
  match cs, hl with
  | [u0, u1, u2], _ =>
   obtain ⟨y0, t0, _⟩ := hfd 0 _ rfl
   obtain ⟨y1, t1, _⟩ := hfd 1 _ rfl
   obtain ⟨y2, t2, _⟩ := hfd 2 _ rfl
   simp [cI] at t0 t1 t2
   obtain ⟨z0, rfl, _⟩ := trod_i64 Tryz.underlying3 t0
   obtain ⟨z1, rfl, _⟩ := trod_i64 Tryz.underlying3 t1
   obtain ⟨z2, rfl, _⟩ := trod_i64 Tryz.underlying3 t2
   exact ⟨⟨z0, z1, z2⟩, .cons (.v rfl) (.cons (.v rfl) (.one (.v rfl))), trivial⟩)
 exact ⟨l, h1⟩
theorem open_setup (hS : ∀ b, S b) {r : Reach} {b0 : Nat} {v : Value} {d : DataW H} {p : List MemPlace} (hv : Value.okWide Tryz.prog w r b0 28 v) (hs : Sz Tryz.prog 28 d) (h : DataW.Trod enc Tryz.prog w base spare held 28 v d p) :
    ∃ (p : Prob) (rs : List Int) (l : List StepD) (ttl : Int), ∀ (ρ : Key → Hd) (ok : Key → Prop), AVRel (CRel S ρ ok w) (.one true (setupC p rs l ttl)) v := by
 have cI : Tryz.prog.cellsOf 22 = 1 := by kernel_rfl
 have cT : Tryz.prog.cellsOf 23 = 1 := by kernel_rfl
 have cP : Tryz.prog.cellsOf 26 = 1 := by kernel_rfl
 have cJ : Tryz.prog.cellsOf 2 = 1 := by kernel_rfl
 have c4 : Tryz.prog.cellsOf 25 = 4 := by kernel_rfl
 have c7 : Tryz.prog.cellsOf 28 = 7 := by kernel_rfl
 unfold Value.okWide at hv
 rw [Tryz.underlying28] at hv
 obtain ⟨cs, rfl, hsz, _⟩ := hv
 obtain ⟨fuel, hf⟩ := h
 obtain ⟨n, hl, hfd⟩ := trod_fields Tryz.underlying28 (by exact hs) hf
 rw [c7] at hsz
 obtain ⟨cs⟩ := cs
 match cs, hsz with
 | [u0, u1, u2, u3, u4, u5, u6], _ =>
  obtain ⟨y0, t0, s0⟩ := hfd 0 _ rfl
  obtain ⟨y1, t1, s1⟩ := hfd 1 _ rfl
  obtain ⟨y2, t2, s2⟩ := hfd 2 _ rfl
  obtain ⟨y3, t3, s3⟩ := hfd 3 _ rfl
  clear hfd hf hl
  simp [cI, cP, cJ, c4, Value.cells] at t0 t1 t2 t3
  obtain ⟨m, _, hgd⟩ := trod_fields Tryz.underlying25 s0 t0
  obtain ⟨x0, k0, q0⟩ := hgd 0 _ rfl
  obtain ⟨x1, k1, q1⟩ := hgd 1 _ rfl
  obtain ⟨x2, k2, q2⟩ := hgd 2 _ rfl
  obtain ⟨x3, k3, q3⟩ := hgd 3 _ rfl
  clear hgd t0
  simp [cI, cT] at k0 k1 k2 k3
  obtain ⟨l0, r0, _⟩ := open_intsD hS q0 k0
  obtain ⟨l1, r1, _⟩ := open_intsD hS q1 k1
  obtain ⟨l2, r2, _⟩ := open_intsD hS q2 k2
  obtain ⟨l3, r3, _⟩ := open_tabsD hS q3 k3
  obtain ⟨l4, r4, _⟩ := open_intsD hS s1 t1
  obtain ⟨l5, r5⟩ := open_stepsD hS s2 t2
  obtain ⟨z6, rfl, _⟩ := trod_i64 Tryz.underlying2 t3
  exact ⟨⟨l0, l1, l2, l3⟩, l4, l5, z6, fun ρ ok => ⟨_, .cons r0 (.cons r1 (.cons r2 (.cons r3 (.cons r4 (.cons r5 (.cons (.v rfl) .nil)))))), by simp⟩⟩
end
end Go.Proofs.YtbafhclppppkgaaGreatDoor

namespace Go.Proofs.YtbafhclppppkgaaGreatDoor
open Go.ChangeShapes Go.WideShapes Go.ChangeAt Go.RowKit Go.Joins Go.Deep
set_option linter.unusedSimpArgs false
set_option linter.unusedVariables false
set_option maxRecDepth 100000
theorem worldErrors_lifted (os : Os) (started : os.Started) (H : Type) (enc : TypeId × Value → H) :
    ReturnsInHanded {} Tryz.checked os 3 .any (fun w args => (Rows.worldErrorsSpec.pre enc Tryz.prog Tryz.f3 [] false w args ∧ laidMetH Tryz.prog Rows.worldErrorsRow.laid w) ∧ sizedMet enc Tryz.prog Tryz.f3 (OpenSpec.ofChange Rows.worldErrorsSpec) false w args)
     (Rows.worldErrorsSpec.post enc Tryz.prog Tryz.f3 false true false false) := by
 refine returnsInHanded_of_change_and (C := Tryz.checked) (X := fun w _ => laidMetH Tryz.prog Rows.worldErrorsRow.laid w) (fun _ _ _ hh h => h.of_heap hh) own started (by kernel_rfl) Tryz.func3
  (ChangeSpec.witness_shaped (enc := enc) (C := Tryz.checked) (os := os) (X := fun w _ => laidMetH Tryz.prog Rows.worldErrorsRow.laid w) false (World.laidAll Tryz.prog os Rows.worldErrorsRow.laid) #[.agg #[.slice none 0 0, .slice none 0 0, .slice none 0 0, .slice none 0 0, .slice none 0 0, .slice none 0 0, .int .i64 0]] 8 rfl (World.shaped_of_ZipB (by kernel_rfl) (by kernel_rfl)) (by kernel_rfl) (by kernel_rfl) (by kernel_rfl)
   (by rw [MakeChecks.laidMetH_plain _ _ _ (by kernel_rfl)]; exact laidMet_laidAll _ (by kernel_rfl) (by kernel_rfl))) ?_
 intro W base args ds gs before hval hW hcnd hsz hL _
 have hW' := hW
 obtain ⟨p, q, hA0, hV, rfl, hfz, hnd⟩ := hW
 have hval' : ∀ (j : Nat) t v, Tryz.f3.params[j]? = some t → args[j]? = some v → Value.okWide Tryz.prog W .any base t v := hval
 have hA : DataW.TrodAll enc Tryz.prog W 0 (fun _ => true) true Tryz.f3.params.toList args.toList ds p := hA0
 rw [Tryz.params3] at hA hval'
 obtain ⟨v0, vs0, d0, ds0, p0, q0, hargs, rfl, rfl, h0, r0⟩ := trodAll_cons hA
 obtain ⟨rfl, rfl, rfl⟩ := trodAll_nil r0
 obtain rfl : args = #[v0] := by cases args; simp_all
 obtain ⟨x0, r0, l0, y0, a0⟩ := open_setup (S := S0) S0_all (hval' 0 28 v0 rfl rfl) (sz_arg hsz (j := 0) (t := 28) rfl rfl) h0
 have hC := calls_of_fn (xs := [(true, setupC x0 r0 l0 y0)]) (vals := [v0]) (w := W) (worldErrors_law x0 r0 l0 y0) rfl (fun i y hy => match i, hy with
  | 0, hy => by cases hy; exact a0 ρ0 _
  | _ + 1, hy => by cases hy)
 exact hC.mono fun e W' ⟨he, hb⟩ => ⟨_, he, law_post rfl laid (by kernel_rfl) (by kernel_rfl) Tryz.underlying4 hW' rfl hb⟩
theorem worldErrors_row : Rows.WorldErrorsSaid :=
 OpenClaim.holds_of_wide 3 Tryz.f3 rfl rfl rfl rfl rfl rfl rfl ⟨rfl, rfl, rfl, rfl, rfl⟩ rfl rfl rfl rfl rfl (by kernel_rfl) Tryz.func3 (by kernel_rfl)
  (of_decide_eq_true (by kernel_rfl)) (by unfold Func.isWrapper; first | (rw [if_pos (by decide +kernel)]; kernel_rfl) | (rw [if_neg (by decide +kernel)]; exact ⟨rfl, rfl⟩))
  (fun os started H enc _ => worldErrors_lifted os started H enc)
theorem worldErrorsCard_holds : Rows.WorldErrorsCardSaid :=
 Claim7.holds_tied_plain_at .later [] [.data, .data, .data] true Rows.worldErrorsCard.stood.harness false
  worldErrors_row (fun _ h => by cases h) (by kernel_rfl) (fun _ h => by cases h) worldErrors_row_tie rfl ⟨rfl, rfl⟩ (by kernel_rfl) rfl
  (fun f fn hf hfn => by
   obtain rfl : f = 3 := Option.some.inj ((show Tryz.prog.funcNamed Rows.worldErrorsRow.func = some 3 by kernel_rfl).symm.trans hf) |>.symm
   obtain rfl : fn = Tryz.f3 := (Option.some.inj (Tryz.func3.symm.trans hfn)).symm
   exact ⟨by kernel_rfl, fun j t ht => by
    rw [Tryz.params3] at ht
    have hm : t ∈ [28] := by simpa using Array.mem_of_getElem? ht
    have hall : ([28].all fun u => !Tryz.prog.wantsStandIn u) = true := by kernel_rfl
    exact (show Tryz.prog.wantsStandIn t = false by simpa using List.all_eq_true.1 hall t hm)⟩)
  (by kernel_rfl)
#print axioms worldErrorsCard_holds
end Go.Proofs.YtbafhclppppkgaaGreatDoor

