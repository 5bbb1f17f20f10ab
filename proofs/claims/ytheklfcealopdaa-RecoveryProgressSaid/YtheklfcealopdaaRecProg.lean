/-
  Rows.RecoveryProgressSaid: for every list of entries the law returns true and leaves its argument as it was. No condition.
-/
import Derived.Test.YtheklfcealopdaaRecProgW
import Derived.Test.YtheklfcealopdaaRow
import Derived.Test.YtheklfcealopdaaRowB
namespace Go.Proofs.Ytheklfcealopdaa
open Go.ChangeShapes Go.WideShapes Go.ChangeAt Go.RowKit Go.Joins Go.Deep
set_option linter.unusedSimpArgs false
set_option linter.unusedVariables false
theorem pick_list {α : Type} {n : Nat} {p : Nat → α → Prop} (h : ∀ i, i < n → ∃ e, p i e) : ∃ l : List α, l.length = n ∧ ∀ i (hi : i < l.length), p i l[i] := by
  induction n with
  | zero => exact ⟨[], rfl, fun i hi => by simp at hi⟩
  | succ n ih =>
    obtain ⟨l, h1, h2⟩ := ih (fun i hi => h i (by omega))
    obtain ⟨e, he⟩ := h n (by omega)
    refine ⟨l ++ [e], by simp [h1], fun i hi => ?_⟩
    by_cases hc : i < l.length
    · rw [List.getElem_append_left hc]; exact h2 i hc
    · have : i = l.length := by simp at hi; omega
      subst this
      rw [List.getElem_append_right (Nat.le_refl _)]
      simpa [h1] using he

set_option maxRecDepth 100000 in
theorem recoveryProgress_lifted (os : Os) (started : os.Started) (H : Type) (enc : TypeId × Value → H) :
    ReturnsInHanded {} Try.checked os 3 .any (Rows.recoveryProgressSpec.pre6 enc Try.prog Try.f3 Rows.recoveryProgressRow.domain false) (Rows.recoveryProgressSpec.post enc Try.prog Try.f3 false true false false) := by
  refine returnsInHanded_of_change_sized (C := Try.checked) own started (by kernel_rfl) Try.func3
    (ChangeSpec.witness6 (enc := enc) (C := Try.checked) false ⟨#[], #[.slice none 0 0], []⟩ 8 (by kernel_rfl) (by kernel_rfl) (by kernel_rfl) (by kernel_rfl)) ?_
  intro W base args ds gs before hval hW hcnd hsz _
  have hW' := hW
  obtain ⟨p, q, hA0, hV, rfl, hfz, hnd⟩ := hW
  have hval' : ∀ (j : Nat) t v, Try.f3.params[j]? = some t → args[j]? = some v → Value.okWide Try.prog W .any base t v := hval
  have hA : DataW.TrodAll enc Try.prog W 0 (fun _ => true) true Try.f3.params.toList args.toList ds p := hA0
  rw [Try.params3] at hA hval'
  obtain ⟨v0, vs0, d0, ds0, p0, q0, hargs, rfl, rfl, h0, r0⟩ := trodAll_cons hA
  obtain ⟨rfl, rfl, rfl⟩ := trodAll_nil r0
  obtain rfl : args = #[v0] := by cases args; simp_all
  obtain ⟨A, n, c, rfl, hn, hnc, hop⟩ := open_rows Try.underlying22 Try.underlying28 (by kernel_rfl) (by kernel_rfl) (by decide) (hval' 0 22 v0 rfl rfl) h0
  have hex : ∀ i, i < n → ∃ e : EntD, ∃ b off, A = some ⟨b, off, none⟩ ∧ b < W.heap.size ∧ W.cell? ⟨b, off + i * 4, none⟩ = some (.int .i64 e.kind) ∧ W.cell? ⟨b, off + i * 4 + 1, none⟩ = some (.int .i64 e.token) ∧ W.cell? ⟨b, off + i * 4 + 2, none⟩ = some (.int .i64 e.idx) ∧ W.cell? ⟨b, off + i * 4 + 3, none⟩ = some (.string e.data) := fun i hi => by
    obtain ⟨b, off, hA, hb, hf⟩ := hop i hi
    obtain ⟨x0, y0, m0, c0, t0⟩ := hf 0 _ rfl
    obtain ⟨x1, y1, m1, c1, t1⟩ := hf 1 _ rfl
    obtain ⟨x2, y2, m2, c2, t2⟩ := hf 2 _ rfl
    obtain ⟨x3, y3, m3, c3, t3⟩ := hf 3 _ rfl
    obtain ⟨z0, rfl, w0⟩ := trod_i64 Try.underlying3 t0
    obtain ⟨z1, rfl, w1⟩ := trod_i64 Try.underlying2 t1
    obtain ⟨z2, rfl, w2⟩ := trod_i64 Try.underlying3 t2
    obtain ⟨z3, e3, _⟩ := DataW.trod_string Try.underlying9 t3
    cases e3
    exact ⟨⟨z0, z1, z2, z3⟩, b, off, hA, hb, c0, c1, c2, c3⟩
  obtain ⟨l, hl, hE⟩ := pick_list hex
  have key : Calls Try.prog 3 #[.slice A n c] W fun e w' => e = .returned (.bool true) ∧ Below W.heap.size W w' := by
    by_cases h40 : n ≤ 40
    · rw [← hl]
      exact recProgress_any A c l W hE (by omega)
    · exact recProgress_long A n c W (by omega) (by unfold maxLen at hn; omega)
  refine (key).mono fun e W' ⟨he, hb⟩ => ⟨_, he, law_post rfl laid (by kernel_rfl) (by kernel_rfl) Try.underlying4 hW' rfl hb⟩

theorem recoveryProgress_holds : Rows.RecoveryProgressSaid :=
  OpenClaim.holds_of_wide 3 Try.f3 rfl rfl rfl rfl rfl rfl rfl ⟨rfl, rfl, rfl, rfl, rfl⟩ rfl rfl rfl rfl rfl (by kernel_rfl) Try.func3 (by kernel_rfl)
    (of_decide_eq_true (by kernel_rfl)) (by unfold Func.isWrapper; first | (rw [if_pos (by decide +kernel)]; kernel_rfl) | (rw [if_neg (by decide +kernel)]; exact ⟨rfl, rfl⟩))
    (fun os started H enc _ => recoveryProgress_lifted os started H enc)
#print axioms recoveryProgress_holds
end Go.Proofs.Ytheklfcealopdaa
