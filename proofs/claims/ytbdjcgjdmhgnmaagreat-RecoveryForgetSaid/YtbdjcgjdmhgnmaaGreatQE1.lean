/- Rows.RecoveryForgetSaid: for every case and every token the law returns true and leaves its arguments as they were. No condition. -/
import Derived.Test.YtbdjcgjdmhgnmaaGreatQA14
import Derived.Test.YtbdjcgjdmhgnmaaGreatQA30
import Derived.Test.YtbdjcgjdmhgnmaaGreatQA36
import Derived.Test.YtbdjcgjdmhgnmaaGreatQD4
namespace Go.Proofs.YtbdjcgjdmhgnmaaGreat
open Go Go.RowKit
set_option maxRecDepth 100000
set_option maxHeartbeats 8000000
set_option linter.unusedSimpArgs false
set_option linter.unusedVariables false
theorem forget_law (d : DraftD) (R ch : List Int) (tk : Int) (hd : draftOK d) (hR : u8s R) (hch : u8s ch) : FnSound Tryz.prog 6 [.val true (caseC d R ch), .val false [.d (.v (.int .i64 tk))]] [] { vals := [(false, [.d (.v (.bool true))])] } := by
 by_cases h : caseOK d = true ∧ ch.length ≤ 40
 ·have hof := ofC_fn d R ch hd hR hch h.1 h.2
  obtain ⟨k0, k1, k2, k3, hk⟩ := now_k hd hR hch h.1
  have hs := hk ch.length (by omega)
  generalize nowAt d R ch ch.length = c at hof hs
  generalize hp : ofP d = p at *
  generalize hr : repsP R p.vs.length = rs at *
  generalize hl : (findP p).1 = l at *
  have hpl := hs.b.plan
  have main : ∀ t : Int, 0 ≤ t → SigK p rs ({ c with token := t } : CtlD).plan { c with token := t } ch.length := fun t ht => ⟨hs.ck.token t, hs.cr.token ht, ⟨rfl, hs.b.rd, hs.b.rp, ht⟩⟩
  have go : ∀ c' : CtlD, c'.plan = l → SigK p rs c'.plan c' ch.length → FnSound Tryz.prog 22 [.val true (probC p), .val false [.d (.sl 1 (dInts rs))], .val true (ctlC c')] [] { vals := [(true, ctlC (forgetP p rs c')), (false, [.d (.v (.int .i64 0))])] } ∧ FnSound Tryz.prog 23 [.val true (probC p), .val false [.d (.sl 1 (dInts rs))], .val true (ctlC c')] [] { vals := [(true, ctlC (forgetP p rs c')), (false, [.d (.v (.int .i64 0))])] } ∧ FnSound Tryz.prog 22 [.val true (probC p), .val false [.d (.sl 1 (dInts rs))], .val true (ctlC (forgetP p rs c'))] [] { vals := [(true, ctlC (forgetP p rs c')), (false, [.d (.v (.int .i64 0))])] } ∧ FnSound Tryz.prog 14 [.val true (ctlC (forgetP p rs c')), .val true (ctlC (forgetP p rs c'))] [] { vals := [(false, [.d (.v (.bool true))])] } ∧ FnSound Tryz.prog 24 [.val true (probC p), .val false [.d (.sl 1 (dInts rs))], .val true (ctlC (forgetP p rs c'))] [] { vals := [(false, [.d (.v (.bool true))])] } := fun c' e hc' => by
   have hcc : checkP p c'.plan = true := by rw [e]; exact k1
   have hll : c'.plan.length ≤ 1000000 := by rw [e]; omega
   have hf := hc'.forget k3 (by omega)
   obtain ⟨f1, f2, f3, f4⟩ := forget_plan (p := p) (rs := rs) (c := c')
   have hf' : SigK p rs (forgetP p rs c').plan (forgetP p rs c') ch.length := by rw [f1]; exact hf
   have a3 := pforget_fn p rs (forgetP p rs c') ch.length hf' (by omega) k3 (by rw [f1]; exact hcc) (by rw [f1]; exact hll)
   rw [forget_idem] at a3
   have b1 := hf.b.rd
   have b2 := hf.b.rp
   exact ⟨pforget_fn p rs c' ch.length hc' (by omega) k3 hcc hll, rforget_fn p rs c' ch.length hc' (by omega) k3 hcc hll, a3, same_fn _ (by rw [f1]; exact hll) hf.ck.g.few hf.ck.g.u, pvalid_fn p rs _ hf.ck hf.cr k3 (by rw [f1]; exact hcc) (by rw [f1]; exact hll) (by omega) (by omega)⟩
  by_cases ht : 0 ≤ tk
  ·obtain ⟨g1, g2, g3, g4, g5⟩ := go { c with token := tk } hpl (main tk ht)
   clear go main hs hk
   refine startW (tm := [(0, _), (1, _)]) Tryz.func6 rfl Tryz.ntmps6 rfl rfl rfl rfl ?_
   repeat' (first
 |(with_reducible refine K_ca 21 ?_); refine zC (hof) ?_
 |(with_reducible refine K_ca 9 ?_); refine zC (awake_fn) ?_
 |(with_reducible refine K_ca 22 ?_); (first
 |refine zC (g1) ?_
 |refine zC (g3) ?_)
 |(with_reducible refine K_ca 23 ?_); refine zC (g2) ?_
 |(with_reducible refine K_ca 14 ?_); refine zC (g4) ?_
 |(with_reducible refine K_ca 24 ?_); refine zC (g5) ?_
 |refine wA ?_
 |(refine wC ?_ ?_ <;> intro hc)
 |refine wB ?_ ?_
 |(with_reducible refine JL.block ?_)
 |(with_reducible refine F_at ?_); refine eW (vs := [(_, _)]) Tryz.results6 ?_; (focus (repeat' (first | exact oA | refine oB ?_ | refine oC ?_ ?_ | fail)))
 |exact oM
 |fail)
   all_goals first | rfl | (exfalso; omega) | trace_state
  ·obtain ⟨g1, g2, g3, g4, g5⟩ := go c hpl (by rw [hpl]; exact hs)
   clear go main hs hk
   refine startW (tm := [(0, _), (1, _)]) Tryz.func6 rfl Tryz.ntmps6 rfl rfl rfl rfl ?_
   repeat' (first
 |(with_reducible refine K_ca 21 ?_); refine zC (hof) ?_
 |(with_reducible refine K_ca 9 ?_); refine zC (awake_fn) ?_
 |(with_reducible refine K_ca 22 ?_); (first
 |refine zC (g1) ?_
 |refine zC (g3) ?_)
 |(with_reducible refine K_ca 23 ?_); refine zC (g2) ?_
 |(with_reducible refine K_ca 14 ?_); refine zC (g4) ?_
 |(with_reducible refine K_ca 24 ?_); refine zC (g5) ?_
 |refine wA ?_
 |(refine wC ?_ ?_ <;> intro hc)
 |refine wB ?_ ?_
 |(with_reducible refine JL.block ?_)
 |(with_reducible refine F_at ?_); refine eW (vs := [(_, _)]) Tryz.results6 ?_; (focus (repeat' (first | exact oA | refine oB ?_ | refine oC ?_ ?_ | fail)))
 |exact oM
 |fail)
   all_goals first | rfl | (exfalso; omega) | trace_state
 ·have hof := ofNoC_fn d R ch hd h
  refine startW (tm := [(0, _), (1, _)]) Tryz.func6 rfl Tryz.ntmps6 rfl rfl rfl rfl ?_
  repeat' (first
 |(with_reducible refine K_ca 21 ?_); refine zC (hof) ?_
 |(with_reducible refine K_ca 9 ?_); refine zC (awake_fn) ?_
 |refine wA ?_
 |(refine wC ?_ ?_ <;> intro hc)
 |refine wB ?_ ?_
 |(with_reducible refine JL.block ?_)
 |(with_reducible refine F_at ?_); refine eW (vs := [(_, _)]) Tryz.results6 ?_; (focus (repeat' (first | exact oA | refine oB ?_ | refine oC ?_ ?_ | fail)))
 |exact oM
 |fail)
  all_goals first | rfl | (exfalso; omega) | trace_state
end Go.Proofs.YtbdjcgjdmhgnmaaGreat

namespace Go.Proofs.YtbdjcgjdmhgnmaaGreat
open Go.ChangeShapes Go.WideShapes Go.ChangeAt Go.RowKit Go.Joins Go.Deep
set_option linter.unusedSimpArgs false
set_option linter.unusedVariables false
set_option maxRecDepth 100000 in
theorem recoveryForget_lifted (os : Os) (started : os.Started) (H : Type) (enc : TypeId × Value → H) :
    ReturnsInHanded {} Tryz.checked os 6 .any (Rows.recoveryForgetSpec.pre6 enc Tryz.prog Tryz.f6 Rows.recoveryForgetRow.domain false) (Rows.recoveryForgetSpec.post enc Tryz.prog Tryz.f6 false true false false) := by
 refine returnsInHanded_of_change_sized (C := Tryz.checked) own started (by kernel_rfl) Tryz.func6
  (ChangeSpec.witness6 (enc := enc) (C := Tryz.checked) false ⟨#[], #[.agg #[.slice none 0 0, .slice none 0 0, .slice none 0 0, .slice none 0 0, .slice none 0 0, .slice none 0 0], .int .i64 0], []⟩ 8 (by kernel_rfl) (by kernel_rfl) (by kernel_rfl) (by kernel_rfl)) ?_
 intro W base args ds gs before hval hW hcnd hsz _
 have hW' := hW
 obtain ⟨p, q, hA0, hV, rfl, hfz, hnd⟩ := hW
 have hval' : ∀ (j : Nat) t v, Tryz.f6.params[j]? = some t → args[j]? = some v → Value.okWide Tryz.prog W .any base t v := hval
 have hA : DataW.TrodAll enc Tryz.prog W 0 (fun _ => true) true Tryz.f6.params.toList args.toList ds p := hA0
 rw [Tryz.params6] at hA hval'
 obtain ⟨v0, vs0, d0, ds0, p0, q0, hargs, rfl, rfl, h0, r0⟩ := trodAll_cons hA
 obtain ⟨v1, vs1, d1, ds1, p1, q1, rfl, rfl, rfl, h1, r1⟩ := trodAll_cons r0
 obtain ⟨rfl, rfl, rfl⟩ := trodAll_nil r1
 obtain rfl : args = #[v0, v1] := by cases args; simp_all
 obtain ⟨x, R, ch, a0, k0, k1, k2⟩ := open_case (S := S0) S0_all (hval' 0 27 v0 rfl rfl) (sz_arg hsz (j := 0) (t := 27) rfl rfl) h0
 obtain ⟨tk, rfl, b1⟩ := open_i64 Tryz.underlying2 (hval' 1 2 v1 rfl rfl) h1
 have hC := calls_of_fn (xs := [(true, caseC x R ch), (false, [.d (.v (.int .i64 tk))])]) (vals := [v0, .int .i64 tk]) (w := W) (forget_law x R ch tk k0 k1 k2) rfl (fun i y hy => match i, hy with
  | 0, hy => by cases hy; exact a0 ρ0 _
  | 1, hy => by cases hy; exact ⟨[.int .i64 tk], .cons (.v rfl) .nil, rfl⟩
  | _ + 2, hy => by cases hy)
 refine (hC).mono fun e W' ⟨he, hb⟩ => ⟨_, he, law_post rfl laid (by kernel_rfl) (by kernel_rfl) Tryz.underlying4 hW' rfl hb⟩
theorem recoveryForget_holds : Rows.RecoveryForgetSaid :=
 OpenClaim.holds_of_wide 6 Tryz.f6 rfl rfl rfl rfl rfl rfl rfl ⟨rfl, rfl, rfl, rfl, rfl⟩ rfl rfl rfl rfl rfl (by kernel_rfl) Tryz.func6 (by kernel_rfl)
  (of_decide_eq_true (by kernel_rfl)) (by unfold Func.isWrapper; first | (rw [if_pos (by decide +kernel)]; kernel_rfl) | (rw [if_neg (by decide +kernel)]; exact ⟨rfl, rfl⟩))
  (fun os started H enc _ => recoveryForget_lifted os started H enc)
#print axioms recoveryForget_holds
end Go.Proofs.YtbdjcgjdmhgnmaaGreat

