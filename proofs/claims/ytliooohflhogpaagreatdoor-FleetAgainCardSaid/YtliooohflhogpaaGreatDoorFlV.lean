/-
  The errors of problems, as contracts of the abstract machine: out of the walk of XProbValid.
-/
import Derived.Test.YtliooohflhogpaaGreatDoorFlP
import Derived.Test.YtliooohflhogpaaGreatDoorAbsE3
import Derived.Test.YtliooohflhogpaaGreatDoorGh
namespace Go.Proofs.YtliooohflhogpaaGreatDoor
open Go Go.RowKit
set_option linter.unusedSimpArgs false
set_option linter.unusedVariables false
section
variable {S : Nat → Prop} {w : World} {v : Value}
theorem rdp_cells {α : Type} {f : α → Value} {xs : List α} (h : Rd S w (.sl 1 (xs.map fun x => [.v (f x)])) v) : ∃ A c, v = .slice A xs.length c ∧ Cells w A (xs.map f) ∧ xs.length ≤ 4611686018427387904 := by
  cases h with
  | @sl _ _ A c b o cv hc hb hA hl hcell hr =>
    refine ⟨A, c, by simp, fun j hj => ?_, by simpa using hb⟩
    have hj' : j < xs.length := by simpa using hj
    have hrow : (xs.map fun x => [D.v (f x)])[j]? = some [.v (f xs[j])] := by simp [hj']
    obtain ⟨h1, h2, _⟩ := hA (ne_nil_of_get hrow)
    have hc0 := hcell j _ 0 _ hrow rfl
    have hr0 := hr j _ 0 _ hrow rfl
    simp only [Nat.mul_one, Nat.add_zero] at hc0
    refine ⟨b, o, h1, h2, ?_⟩
    rw [hc0, hr0.val.1]
    simp
theorem rdp_mat {m : List (List Bool)} (h : Rd S w (.sl 1 (dMat m)) v) : ∃ A c, v = .slice A m.length c ∧ Mat w A m ∧ m.length ≤ 4611686018427387904 := by
  unfold dMat at h
  cases h with
  | @sl _ _ A c b o cv hc hb hA hl hcell hr =>
    refine ⟨A, c, by simp, fun j hj => ?_, by simpa using hb⟩
    have hrow : (m.map fun r => [D.sl 1 (dBools r)])[j]? = some [.sl 1 (dBools m[j])] := by simp [hj]
    obtain ⟨h1, h2, _⟩ := hA (ne_nil_of_get hrow)
    have hc0 := hcell j _ 0 _ hrow rfl
    have hr0 := hr j _ 0 _ hrow rfl
    simp only [Nat.mul_one, Nat.add_zero] at hc0
    obtain ⟨A2, c2, e2, hC2, hl2⟩ := rdp_cells (f := Value.bool) (xs := m[j]) hr0
    exact ⟨b, o, A2, c2, h1, h2, by rw [hc0, e2], hC2, hl2⟩
theorem rdp_tabs {ts : List Tab} (h : Rd S w (.sl 6 (dTabs ts)) v) : ∃ A c, v = .slice A ts.length c ∧ Tabs w A ts ∧ ts.length ≤ 4611686018427387904 := by
  unfold dTabs at h
  cases h with
  | @sl _ _ A c b o cv hc hb hA hl hcell hr =>
    refine ⟨A, c, by simp, fun j hj => ?_, by simpa using hb⟩
    have hrow : (ts.map tabRow)[j]? = some (tabRow ts[j]) := by simp [hj]
    obtain ⟨h1, h2, _⟩ := hA (ne_nil_of_get hrow)
    have c0 := hcell j _ 0 _ hrow rfl
    have c1 := hcell j _ 1 _ hrow rfl
    have c2 := hcell j _ 2 _ hrow rfl
    have c3 := hcell j _ 3 _ hrow rfl
    have c4 := hcell j _ 4 _ hrow rfl
    have c5 := hcell j _ 5 _ hrow rfl
    have r0 := hr j _ 0 _ hrow rfl
    have r1 := hr j _ 1 _ hrow rfl
    have r2 := hr j _ 2 _ hrow rfl
    have r3 := hr j _ 3 _ hrow rfl
    have r4 := hr j _ 4 _ hrow rfl
    have r5 := hr j _ 5 _ hrow rfl
    obtain ⟨okA, okc, e4, m4, l4⟩ := rdp_mat r4
    obtain ⟨rwA, rwc, e5, m5, l5⟩ := rdp_mat r5
    rw [r0.val.1] at c0
    rw [r1.val.1] at c1
    rw [r2.val.1] at c2
    rw [r3.val.1] at c3
    rw [e4] at c4
    rw [e5] at c5
    exact ⟨b, o, okA, okc, rwA, rwc, h1, h2, c0, c1, c2, c3, c4, c5, m4, m5, l4, l5⟩
theorem prob_of_rd {ρ : Key → Hd} {ok : Key → Prop} {p : Prob} (h : AVRel (CRel S ρ ok w) (.one true (probC p)) v) : ProbAt w v p := by
  obtain ⟨vs, h1, h2⟩ := h
  simp only [if_true] at h2
  unfold probC at h1
  cases h1 with
  | cons r0 h1 => cases h1 with
    | cons r1 h1 => cases h1 with
      | cons r2 h1 => cases h1 with
        | cons r3 h1 =>
          cases h1
          obtain ⟨A0, c0, rfl, k0, l0⟩ := rdp_cells (f := Value.int .i64) (xs := p.vs) r0
          obtain ⟨A1, c1, rfl, k1, l1⟩ := rdp_cells (f := Value.int .i64) (xs := p.now) r1
          obtain ⟨A2, c2, rfl, k2, l2⟩ := rdp_cells (f := Value.int .i64) (xs := p.tgt) r2
          obtain ⟨A3, c3, rfl, k3, l3⟩ := rdp_tabs r3
          exact ⟨A0, c0, A1, c1, A2, c2, A3, c3, h2, k0, k1, k2, k3, l0, l1, l2, l3⟩
end
theorem vp_fn (p : Prob) : FnSound Tryz.prog 11 [.val true (probC p)] [] { vals := [(false, [.d (.v (.int .i64 (vpErr p)))])] } := by
  refine fn_data rfl (fun V X Z ρ w vals hl hR => ?_)
  obtain ⟨_, hv⟩ := args_val hR (i := 0) (av := .one true (probC p)) rfl
  rw [vals_one hl]
  refine (validProblem_any _ p w (prob_of_rd hv)).mono ?_
  rintro e w' ⟨rfl, hb⟩
  exact ⟨_, rfl, hb, fun S _ ρ' ok' => ⟨[.int .i64 (vpErr p)], .cons (Rd.v rfl) .nil, rfl⟩⟩
end Go.Proofs.YtliooohflhogpaaGreatDoor
