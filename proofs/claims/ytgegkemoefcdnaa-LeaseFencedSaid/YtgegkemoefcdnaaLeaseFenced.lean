/-
  Rows.LeaseFencedSaid: for every input the law returns true and leaves its arguments as they were. No condition.
-/
import Derived.Test.YtgegkemoefcdnaaLeaseFencedW
import Derived.Test.YtgegkemoefcdnaaRowB
namespace Go.Proofs.Ytgegkemoefcdnaa
open Go.ChangeShapes Go.WideShapes Go.ChangeAt Go.RowKit Go.Joins Go.Deep
set_option linter.unusedSimpArgs false
set_option linter.unusedVariables false

set_option maxRecDepth 100000 in
theorem leaseFenced_lifted (os : Os) (started : os.Started) (H : Type) (enc : TypeId × Value → H) :
    ReturnsInHanded {} Try.checked os 9 .any (Rows.leaseFencedSpec.pre6 enc Try.prog Try.f9 Rows.leaseFencedRow.domain false) (Rows.leaseFencedSpec.post enc Try.prog Try.f9 false true false false) := by
  refine returnsInHanded_of_change_sized (C := Try.checked) own started (by kernel_rfl) Try.func9
    (ChangeSpec.witness6 (enc := enc) (C := Try.checked) false ⟨#[], #[.slice none 0 0], []⟩ 8 (by kernel_rfl) (by kernel_rfl) (by kernel_rfl) (by kernel_rfl)) ?_
  intro W base args ds gs before hval hW hcnd hsz _
  have hW' := hW
  obtain ⟨p, q, hA0, hV, rfl, hfz, hnd⟩ := hW
  have hval' : ∀ (j : Nat) t v, Try.f9.params[j]? = some t → args[j]? = some v → Value.okWide Try.prog W .any base t v := hval
  have hA : DataW.TrodAll enc Try.prog W 0 (fun _ => true) true Try.f9.params.toList args.toList ds p := hA0
  rw [Try.params9] at hA hval'
  obtain ⟨v0, vs0, d0, ds0, p0, q0, hargs, rfl, rfl, h0, r0⟩ := trodAll_cons hA
  obtain ⟨rfl, rfl, rfl⟩ := trodAll_nil r0
  obtain rfl : args = #[v0] := by cases args; simp_all
  obtain ⟨A, n, c, rfl, hn, hnc, hop⟩ := open_rows Try.underlying40 Try.underlying43 (by kernel_rfl) (by kernel_rfl) (by decide) (hval' 0 40 v0 rfl rfl) h0
  have hO : OpsAt W A n := fun i hi => by
    obtain ⟨b, off, hA, hb, hf⟩ := hop i hi
    obtain ⟨x0, y0, m0, c0, t0⟩ := hf 0 _ rfl
    obtain ⟨x1, y1, m1, c1, t1⟩ := hf 1 _ rfl
    obtain ⟨x2, y2, m2, c2, t2⟩ := hf 2 _ rfl
    obtain ⟨x3, y3, m3, c3, t3⟩ := hf 3 _ rfl
    obtain ⟨x4, y4, m4, c4, t4⟩ := hf 4 _ rfl
    obtain ⟨z0, rfl, w0⟩ := trod_u8 Try.underlying5 t0
    obtain ⟨z1, rfl, w1⟩ := trod_u8 Try.underlying5 t1
    obtain ⟨z2, rfl, w2⟩ := trod_u8 Try.underlying5 t2
    obtain ⟨z3, rfl, w3⟩ := trod_u8 Try.underlying5 t3
    obtain ⟨z4, rfl⟩ := trod_b Try.underlying4 t4
    exact ⟨b, off, z0, z1, z2, z3, z4, hA, hb, c0, c1, c2, c3, c4, w0, w1, w2, w3⟩
  have key : Calls Try.prog 9 #[.slice A n c] W fun e w' => e = .returned (.bool true) ∧ Below W.heap.size W w' := by
    by_cases h40 : n ≤ 40
    · exact leaseFenced_any A n c W hO h40
    · exact leaseFenced_long A n c W (by omega) (by unfold maxLen at hn; omega)
  refine (key).mono fun e W' ⟨he, hb⟩ => ⟨_, he, law_post rfl laid (by kernel_rfl) (by kernel_rfl) Try.underlying4 hW' rfl hb⟩

theorem leaseFenced_holds : Rows.LeaseFencedSaid :=
  OpenClaim.holds_of_wide 9 Try.f9 rfl rfl rfl rfl rfl rfl rfl ⟨rfl, rfl, rfl, rfl, rfl⟩ rfl rfl rfl rfl rfl (by kernel_rfl) Try.func9 (by kernel_rfl)
    (of_decide_eq_true (by kernel_rfl)) (by unfold Func.isWrapper; first | (rw [if_pos (by decide +kernel)]; kernel_rfl) | (rw [if_neg (by decide +kernel)]; exact ⟨rfl, rfl⟩))
    (fun os started H enc _ => leaseFenced_lifted os started H enc)
#print axioms leaseFenced_holds
end Go.Proofs.Ytgegkemoefcdnaa
