/- Rows.ControllerExpectedCardSaid: for every input the law returns true and leaves its arguments as they were. Condition (the card's own): the listed tables of Go's library hold what the program's text lays. -/
import Derived.LaidMore
import Derived.Lay
import Derived.SevenTiedAt
import Derived.Stop.Joined
import Derived.Stop.LaidErr
import Derived.Test.YtdpeoolildjohaaGreatDoorCards
import Derived.Test.YtdpeoolildjohaaGreatDoorQA14
import Derived.Test.YtdpeoolildjohaaGreatDoorTA37
import Derived.Test.YtdpeoolildjohaaGreatDoorTA39
import Derived.Test.YtdpeoolildjohaaGreatDoorTA40
import Derived.Test.YtdpeoolildjohaaGreatDoorTD1
import Derived.Test.YtdpeoolildjohaaGreatDoorTJ1
import Derived.Test.YtdpeoolildjohaaGreatDoorTie
namespace Go.Proofs.YtdpeoolildjohaaGreatDoor
open Go Go.RowKit
set_option linter.unusedSimpArgs false
set_option linter.unusedVariables false
section
variable {P : Program} {lend : FuncId → Bool} {N : Nat} {ops : Array Oper} {dr : Bool} {cs : List Code} {R : AX → St → Prop} {i : Nat} {os : List Oper} {tm : List (Nat × AV)} {bo : BO} {nx : Nat} {ns : List Note} {d : Nat} {pos : String} {ty : TypeId} {af : Array Edge}
theorem W.idxA {t e : TypeId} {x ix : Operand} {q : Key} {off sz m : Nat} {n : Int} (hd : Nat.blt d N = true) (he : P.underlying t = some (.array m e)) (hs : sizeT P e = some sz) (hx : (ev (lk tm) x).bind slot1 = some (.ptr q off)) (hi : intV (ev (lk tm) ix) = some n) (hn : 0 ≤ n ∧ n < m) (h : W P lend N ops dr cs R (i + 1) os ((d, .one false [.ptr q (off + n.toNat * sz)]) :: tm) bo nx (ns ++ [⟨opKeys (lk tm) (lko bo) ⟨some d, .indexAddr t x ix, ty, pos, af, none⟩, []⟩])) : W P lend N ops dr cs R i (⟨some d, .indexAddr t x ix, ty, pos, af, none⟩ :: os) tm bo nx ns := by
 refine W.val hd ?_ h
 simp only [effOf]
 unfold effIndexAddr
 rw [ev_only (x := x) (by simp [Op.operands]), hx, ev_only (x := ix) (by simp [Op.operands]), hi, he]
 simp only [hs, if_pos hn, addOff, Option.map_some]
end
end Go.Proofs.YtdpeoolildjohaaGreatDoor

namespace Go.Proofs.YtdpeoolildjohaaGreatDoor
open Go Go.RowKit
set_option maxRecDepth 100000
set_option maxHeartbeats 8000000
set_option linter.unusedSimpArgs false
set_option linter.unusedVariables false
theorem nilM_few : Few nilM ∧ u8s nilM.held := ⟨⟨by decide, by decide, by decide⟩, fun x hx => by cases hx⟩
theorem expect_few {p : Prob} {l : List StepD} {a ph : Int} (hv : vpErr p = 0) : Few (expectP p l a ph).1 ∧ u8s (expectP p l a ph).1.held := by
 unfold expectP
 rw [if_neg (by simpa using hv)]
 cases hc : checkP p l with
 | false => rw [if_pos rfl]; exact nilM_few
 | true =>
  have hp := planOK_of hv (start_err hv) hc
  rw [if_neg (by decide)]
  split
  ·exact nilM_few
  ·split
   ·have hg := hp.g (k := a.toNat) (by omega)
    exact ⟨hg.few, hg.u⟩
   ·split
    ·by_cases h : (a + 1).toNat ≤ l.length
     ·have hg := hp.g (k := (a + 1).toNat) h
      exact ⟨hg.few, hg.u⟩
     ·have e : (mixesP p l).getD (a + 1).toNat nilM = nilM := by
        rw [List.getD_eq_getElem?_getD, List.getElem?_eq_none (by rw [hp.len]; omega)]; rfl
      rw [e]; exact nilM_few
    ·split
     ·rename_i h5
      by_cases h : a < l.length
      ·have hg := (hp.abort (a := a) ⟨by omega, h⟩ (by have h6 := h5.2; unfold kindP at h6; rw [if_pos h] at h6; exact h6)).1
       exact ⟨hg.few, hg.u⟩
      ·have : kindP l a = 0 := by unfold kindP; rw [if_neg (by omega)]
       have := h5.2
       omega
     ·exact nilM_few
theorem expected_law (d : DraftD) (l : List StepD) (a ph : Int) (hd : draftOK d) : FnSound Tryz.prog 9 [.val true (draftC d), .val false [.d (.sl 3 (dSteps l))], .val true [.d (.v (.int .i64 a)), .d (.v (.int .i64 ph))]] [] { vals := [(false, [.d (.v (.bool true))])] } := by
 have hA : Tryz.prog.underlying 82 = some (.array 2 3) := by kernel_rfl
 have hZ : sizeT Tryz.prog 3 = some 1 := by kernel_rfl
 cases ho : ofOK d with
 | false =>
  have hof := ofNo_fn d ho
  refine startW (tm := [(0, _), (1, _), (2, _)]) Tryz.func9 rfl Tryz.ntmps9 rfl rfl rfl rfl ?_
  repeat' (first
 |(with_reducible refine K_ca 10 ?_); refine zC (hof) ?_
 |(with_reducible refine K_ca 11 ?_); refine zC (awake_fn) ?_
 |refine wA ?_
 |(refine wC ?_ ?_ <;> intro hc)
 |refine wB ?_ ?_
 |(with_reducible refine JL.block ?_)
 |(with_reducible refine F_at ?_); refine eW (vs := [(_, _)]) Tryz.results9 ?_; (focus (repeat' (first | exact oA | refine oB ?_ | refine oC ?_ ?_ | fail)))
 |exact oM
 |fail)
  all_goals first | rfl | trace_state
 | true =>
  have hof := of_fn d hd ho
  have hv := ofP_sound hd ho
  generalize ofP d = p at *
  have hli := lightOK_fn p hv 120 (by omega)
  generalize lightP p 120 = g at hli
  by_cases h2 : l.length ≤ 20
  ·have a2 := cloneSteps_fn l (by omega)
   have a3 := pexpected_fn p l a ph hv (by omega)
   have a4 := expect_fn p l a ph hv (by omega)
   obtain ⟨f1, f2⟩ := expect_few (p := p) (l := l) (a := a) (ph := ph) hv
   generalize expectP p l a ph = x at *
   have a5 := equal_fn x.1 x.1 f1 f1 f2 f2
   rw [decide_eq_true rfl] at a5
   cases g
   ·refine startW (tm := [(0, _), (1, _), (2, _)]) Tryz.func9 rfl Tryz.ntmps9 rfl rfl rfl rfl ?_
    repeat' (first
 |(with_reducible refine K_ca 10 ?_); refine zC (hof) ?_
 |(with_reducible refine K_ca 11 ?_); refine zC (awake_fn) ?_
 |(with_reducible refine K_ca 12 ?_); refine zC (hli) ?_
 |refine wA ?_
 |(refine wC ?_ ?_ <;> intro hc)
 |refine wB ?_ ?_
 |(with_reducible refine JL.block ?_)
 |(with_reducible refine F_at ?_); refine eW (vs := [(_, _)]) Tryz.results9 ?_; (focus (repeat' (first | exact oA | refine oB ?_ | refine oC ?_ ?_ | fail)))
 |exact oM
 |fail)
    all_goals first | rfl | (exfalso; omega) | trace_state
   ·refine startW (tm := [(0, _), (1, _), (2, _)]) Tryz.func9 rfl Tryz.ntmps9 rfl rfl rfl rfl ?_
    repeat' (first
 |(with_reducible refine K_ca 10 ?_); refine zC (hof) ?_
 |(with_reducible refine K_ca 11 ?_); refine zC (awake_fn) ?_
 |(with_reducible refine K_ca 12 ?_); refine zC (hli) ?_
 |(with_reducible refine K_ca 15 ?_); refine zS (a2) ?_
 |(with_reducible refine K_ca 34 ?_); refine zC (a3) ?_
 |(with_reducible refine K_ca 35 ?_); refine zC (a4) ?_
 |(with_reducible refine K_ca 36 ?_); refine zC (a5) ?_
 |(with_reducible refine W_at ?_); (first
 |(refine W.idxA rfl hA hZ rfl rfl ⟨by decide, by decide⟩ ?_))
 |refine wA ?_
 |(refine wC ?_ ?_ <;> intro hc)
 |refine wB ?_ ?_
 |(with_reducible refine JL.block ?_)
 |(with_reducible refine F_at ?_); refine eW (vs := [(_, _)]) Tryz.results9 ?_; (focus (repeat' (first | exact oA | refine oB ?_ | refine oC ?_ ?_ | fail)))
 |exact oM
 |fail)
    all_goals first | rfl | (exfalso; omega) | trace_state
  ·refine startW (tm := [(0, _), (1, _), (2, _)]) Tryz.func9 rfl Tryz.ntmps9 rfl rfl rfl rfl ?_
   repeat' (first
 |(with_reducible refine K_ca 10 ?_); refine zC (hof) ?_
 |(with_reducible refine K_ca 11 ?_); refine zC (awake_fn) ?_
 |(with_reducible refine K_ca 12 ?_); refine zC (hli) ?_
 |refine wA ?_
 |(refine wC ?_ ?_ <;> intro hc)
 |refine wB ?_ ?_
 |(with_reducible refine JL.block ?_)
 |(with_reducible refine F_at ?_); refine eW (vs := [(_, _)]) Tryz.results9 ?_; (focus (repeat' (first | exact oA | refine oB ?_ | refine oC ?_ ?_ | fail)))
 |exact oM
 |fail)
   all_goals first | rfl | (exfalso; omega) | trace_state
end Go.Proofs.YtdpeoolildjohaaGreatDoor

namespace Go.Proofs.YtdpeoolildjohaaGreatDoor
open Go.ChangeShapes Go.WideShapes Go.ChangeAt Go.RowKit Go.Joins Go.Deep
set_option linter.unusedSimpArgs false
set_option linter.unusedVariables false
set_option maxRecDepth 100000
theorem controllerExpected_lifted (os : Os) (started : os.Started) (H : Type) (enc : TypeId × Value → H) :
    ReturnsInHanded {} Tryz.checked os 9 .any (fun w args => (Rows.controllerExpectedSpec.pre enc Tryz.prog Tryz.f9 [] false w args ∧ laidMetH Tryz.prog Rows.controllerExpectedRow.laid w) ∧ sizedMet enc Tryz.prog Tryz.f9 (OpenSpec.ofChange Rows.controllerExpectedSpec) false w args)
     (Rows.controllerExpectedSpec.post enc Tryz.prog Tryz.f9 false true false false) := by
 refine returnsInHanded_of_change_and (C := Tryz.checked) (X := fun w _ => laidMetH Tryz.prog Rows.controllerExpectedRow.laid w) (fun _ _ _ hh h => h.of_heap hh) own started (by kernel_rfl) Tryz.func9
  (ChangeSpec.witness_shaped (enc := enc) (C := Tryz.checked) (os := os) (X := fun w _ => laidMetH Tryz.prog Rows.controllerExpectedRow.laid w) false (World.laidAll Tryz.prog os Rows.controllerExpectedRow.laid) #[.agg #[.slice none 0 0, .slice none 0 0, .slice none 0 0, .slice none 0 0], .slice none 0 0, .agg #[.int .i64 0, .int .i64 0]] 8 rfl (World.shaped_of_ZipB (by kernel_rfl) (by kernel_rfl)) (by kernel_rfl) (by kernel_rfl) (by kernel_rfl)
   (by rw [MakeChecks.laidMetH_plain _ _ _ (by kernel_rfl)]; exact laidMet_laidAll _ (by kernel_rfl) (by kernel_rfl))) ?_
 intro W base args ds gs before hval hW hcnd hsz hL _
 have hW' := hW
 obtain ⟨p, q, hA0, hV, rfl, hfz, hnd⟩ := hW
 have hval' : ∀ (j : Nat) t v, Tryz.f9.params[j]? = some t → args[j]? = some v → Value.okWide Tryz.prog W .any base t v := hval
 have hA : DataW.TrodAll enc Tryz.prog W 0 (fun _ => true) true Tryz.f9.params.toList args.toList ds p := hA0
 rw [Tryz.params9] at hA hval'
 obtain ⟨v0, vs0, d0, ds0, p0, q0, hargs, rfl, rfl, h0, r0⟩ := trodAll_cons hA
 obtain ⟨v1, vs1, d1, ds1, p1, q1, rfl, rfl, rfl, h1, r1⟩ := trodAll_cons r0
 obtain ⟨v2, vs2, d2, ds2, p2, q2, rfl, rfl, rfl, h2, r2⟩ := trodAll_cons r1
 obtain ⟨rfl, rfl, rfl⟩ := trodAll_nil r2
 obtain rfl : args = #[v0, v1, v2] := by cases args; simp_all
 obtain ⟨x0, a0, s0⟩ := open_draftA (S := S0) S0_all (hval' 0 25 v0 rfl rfl) (sz_arg hsz (j := 0) (t := 25) rfl rfl) h0
 obtain ⟨x1, a1⟩ := open_stepsA (S := S0) S0_all (hval' 1 27 v1 rfl rfl) (sz_arg hsz (j := 1) (t := 27) rfl rfl) h1
 obtain ⟨x2, y2, a2⟩ := open_pairA (S := S0) (hval' 2 82 v2 rfl rfl) (sz_arg hsz (j := 2) (t := 82) rfl rfl) h2
 have hC := calls_of_fn (xs := [(true, draftC x0), (false, [.d (.sl 3 (dSteps x1))]), (true, [.d (.v (.int .i64 x2)), .d (.v (.int .i64 y2))])]) (vals := [v0, v1, v2]) (w := W) (expected_law x0 x1 x2 y2 s0) rfl (fun i y hy => match i, hy with
  | 0, hy => by cases hy; exact a0 ρ0 _
  | 1, hy => by cases hy; exact a1 ρ0 _
  | 2, hy => by cases hy; exact a2 ρ0 _
  | _ + 3, hy => by cases hy)
 exact hC.mono fun e W' ⟨he, hb⟩ => ⟨_, he, law_post rfl laid (by kernel_rfl) (by kernel_rfl) Tryz.underlying4 hW' rfl hb⟩
theorem controllerExpected_row : Rows.ControllerExpectedSaid :=
 OpenClaim.holds_of_wide 9 Tryz.f9 rfl rfl rfl rfl rfl rfl rfl ⟨rfl, rfl, rfl, rfl, rfl⟩ rfl rfl rfl rfl rfl (by kernel_rfl) Tryz.func9 (by kernel_rfl)
  (of_decide_eq_true (by kernel_rfl)) (by unfold Func.isWrapper; first | (rw [if_pos (by decide +kernel)]; kernel_rfl) | (rw [if_neg (by decide +kernel)]; exact ⟨rfl, rfl⟩))
  (fun os started H enc _ => controllerExpected_lifted os started H enc)
theorem controllerExpectedCard_holds : Rows.ControllerExpectedCardSaid :=
 Claim7.holds_tied_plain_at .later [] [.data, .data, .data] true Rows.controllerExpectedCard.stood.harness false
  controllerExpected_row (fun _ h => by cases h) (by kernel_rfl) (fun _ h => by cases h) controllerExpected_row_tie rfl ⟨rfl, rfl⟩ (by kernel_rfl) rfl
  (fun f fn hf hfn => by
   obtain rfl : f = 9 := Option.some.inj ((show Tryz.prog.funcNamed Rows.controllerExpectedRow.func = some 9 by kernel_rfl).symm.trans hf) |>.symm
   obtain rfl : fn = Tryz.f9 := (Option.some.inj (Tryz.func9.symm.trans hfn)).symm
   exact ⟨by kernel_rfl, fun j t ht => by
    rw [Tryz.params9] at ht
    have hm : t ∈ [25, 27, 82] := by simpa using Array.mem_of_getElem? ht
    have hall : ([25, 27, 82].all fun u => !Tryz.prog.wantsStandIn u) = true := by kernel_rfl
    exact (show Tryz.prog.wantsStandIn t = false by simpa using List.all_eq_true.1 hall t hm)⟩)
  (by kernel_rfl)
#print axioms controllerExpectedCard_holds
end Go.Proofs.YtdpeoolildjohaaGreatDoor

