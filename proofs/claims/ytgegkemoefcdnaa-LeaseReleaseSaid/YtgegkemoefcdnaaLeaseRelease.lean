/-
  Rows.LeaseReleaseSaid: for every input the law returns true and leaves its arguments as they were. No condition.
-/
import Derived.Test.YtgegkemoefcdnaaLeaseLaw
import Derived.Test.YtgegkemoefcdnaaRow
namespace Go.Proofs.Ytgegkemoefcdnaa
open Go.ChangeShapes Go.WideShapes Go.ChangeAt Go.RowKit Go.Joins Go.Deep
set_option linter.unusedSimpArgs false
set_option linter.unusedVariables false

set_option maxRecDepth 100000 in
theorem leaseRelease_lifted (os : Os) (started : os.Started) (H : Type) (enc : TypeId × Value → H) :
    ReturnsInHanded {} Try.checked os 7 .any (Rows.leaseReleaseSpec.pre6 enc Try.prog Try.f7 Rows.leaseReleaseRow.domain false) (Rows.leaseReleaseSpec.post enc Try.prog Try.f7 false true false false) := by
  refine returnsInHanded_of_change_sized (C := Try.checked) own started (by kernel_rfl) Try.func7
    (ChangeSpec.witness6 (enc := enc) (C := Try.checked) false ⟨#[], #[.agg #[.int .i64 0, .int .i64 0, .int .i64 0], .int .i64 0, .agg #[.int .i64 0, .int .i64 0]], []⟩ 8 (by kernel_rfl) (by kernel_rfl) (by kernel_rfl) (by kernel_rfl)) ?_
  intro W base args ds gs before hval hW hcnd hsz _
  have hW' := hW
  obtain ⟨p, q, hA0, hV, rfl, hfz, hnd⟩ := hW
  have hval' : ∀ (j : Nat) t v, Try.f7.params[j]? = some t → args[j]? = some v → Value.okWide Try.prog W .any base t v := hval
  have hA : DataW.TrodAll enc Try.prog W 0 (fun _ => true) true Try.f7.params.toList args.toList ds p := hA0
  rw [Try.params7] at hA hval'
  obtain ⟨v0, vs0, d0, ds0, p0, q0, hargs, rfl, rfl, h0, r0⟩ := trodAll_cons hA
  obtain ⟨v1, vs1, d1, ds1, p1, q1, rfl, rfl, rfl, h1, r1⟩ := trodAll_cons r0
  obtain ⟨v2, vs2, d2, ds2, p2, q2, rfl, rfl, rfl, h2, r2⟩ := trodAll_cons r1
  obtain ⟨rfl, rfl, rfl⟩ := trodAll_nil r2
  obtain rfl : args = #[v0, v1, v2] := by cases args; simp_all
  obtain ⟨hd, tk, un, rfl, b0, b1, b2⟩ := open_l3 Try.underlying23 (by kernel_rfl) (by kernel_rfl) Try.underlying3 Try.underlying2 Try.underlying2 (hval' 0 23 v0 rfl rfl) h0
  obtain ⟨who, rfl, b3⟩ := open_i64 Try.underlying3 (hval' 1 3 v1 rfl rfl) h1
  obtain ⟨a, b, rfl, k2a, k2b⟩ := open_arr2 Try.underlying24 Try.underlying2 (by kernel_rfl) (by kernel_rfl) (hval' 2 24 v2 rfl rfl) h2
  refine (leaseRelease_any hd tk un who a b W).mono fun e W' ⟨he, hb⟩ => ⟨_, he, law_post rfl laid (by kernel_rfl) (by kernel_rfl) Try.underlying4 hW' rfl hb⟩

theorem leaseRelease_holds : Rows.LeaseReleaseSaid :=
  OpenClaim.holds_of_wide 7 Try.f7 rfl rfl rfl rfl rfl rfl rfl ⟨rfl, rfl, rfl, rfl, rfl⟩ rfl rfl rfl rfl rfl (by kernel_rfl) Try.func7 (by kernel_rfl)
    (of_decide_eq_true (by kernel_rfl)) (by unfold Func.isWrapper; first | (rw [if_pos (by decide +kernel)]; kernel_rfl) | (rw [if_neg (by decide +kernel)]; exact ⟨rfl, rfl⟩))
    (fun os started H enc _ => leaseRelease_lifted os started H enc)
#print axioms leaseRelease_holds
end Go.Proofs.Ytgegkemoefcdnaa
