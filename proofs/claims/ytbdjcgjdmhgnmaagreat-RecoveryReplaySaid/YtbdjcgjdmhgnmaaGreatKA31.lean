import Derived.Test.YtbdjcgjdmhgnmaaGreatKA24
namespace Go.Proofs.YtbdjcgjdmhgnmaaGreat
open Go Go.RowKit
set_option linter.unusedSimpArgs false
set_option linter.unusedVariables false
theorem replayL_at {p : Prob} {rs : List Int} {c : CtlD} {es : List EntD} {k : Nat} (hk : k < es.length) : replayL p rs c (es.drop k) = match oneP p rs c (es.getD k nilE) with
    | none => (nilCtl, 1)
    | some c' => replayL p rs c' (es.drop (k + 1)) := by
  rw [dropD_cons (d := nilE) hk]; rfl
theorem replay_err {p : Prob} {rs : List Int} {c : CtlD} {es : List EntD} {k : Nat} {q : CtlD × Int} (hk : k < es.length) (h : replayL p rs c (es.drop k) = q) (hn : (oneP p rs c (es.getD k nilE)).isSome = false) : q = (nilCtl, 1) := by
 rw [← h, replayL_at hk]
 cases e : oneP p rs c (es.getD k nilE) with
 | none => rfl
 | some d => rw [e] at hn; cases hn
theorem replay_next {p : Prob} {rs : List Int} {c : CtlD} {es : List EntD} {k : Nat} {q : CtlD × Int} (hk : k < es.length) (h : replayL p rs c (es.drop k) = q) (hn : (oneP p rs c (es.getD k nilE)).isSome = true) : replayL p rs (oneD p rs c (es.getD k nilE)) (es.drop (k + 1)) = q ∧ oneP p rs c (es.getD k nilE) = some (oneD p rs c (es.getD k nilE)) := by
 rw [← h, replayL_at hk]
 cases e : oneP p rs c (es.getD k nilE) with
 | none => rw [e] at hn; cases hn
 | some d => unfold oneD; rw [e]; exact ⟨rfl, rfl⟩
theorem replay_inv {p : Prob} {rs : List Int} {c : CtlD} {x : EntD} {l : List StepD} {k : Nat} (h : CtlK p c) (hp : c.plan = l) (hl : l.length ≤ 1000000) (hr : 0 ≤ c.round ∧ c.round ≤ k) (hk : k ≤ 1000) (e : oneP p rs c x = some (oneD p rs c x)) : CtlK p (oneD p rs c x) ∧ (oneD p rs c x).plan = l ∧ 0 ≤ (oneD p rs c x).round ∧ (oneD p rs c x).round ≤ ((k + 1 : Nat) : Int) := by
 obtain ⟨h1, h2, h3⟩ := h.one (by rw [hp]; exact hl) e
 have w2 : w64 (c.round + 1) = c.round + 1 := w64_is (by omega)
 rw [w2] at h3
 exact ⟨h1, h2.trans hp, by omega, by omega⟩
theorem longL_at {p : Prob} {rs : List Int} {c : CtlD} {es : List EntD} {k : Nat} (hk : k < es.length) : longL p rs c (es.drop k) = match oneP p rs c (es.getD k nilE) with
    | none => 0
    | some c' => longL p rs c' (es.drop (k + 1)) + 1 := by
  rw [dropD_cons (d := nilE) hk]; rfl
theorem long_no {p : Prob} {rs : List Int} {c : CtlD} {es : List EntD} {k n : Nat} (hk : k < es.length) (h : k + longL p rs c (es.drop k) = n) (hn : (oneP p rs c (es.getD k nilE)).isSome = false) : n = k := by
 rw [longL_at hk] at h
 cases e : oneP p rs c (es.getD k nilE) with
 | none => rw [e] at h; simp at h; omega
 | some d => rw [e] at hn; cases hn
theorem long_yes {p : Prob} {rs : List Int} {c : CtlD} {es : List EntD} {k n : Nat} (hk : k < es.length) (h : k + longL p rs c (es.drop k) = n) (hn : (oneP p rs c (es.getD k nilE)).isSome = true) : k + 1 + longL p rs (oneD p rs c (es.getD k nilE)) (es.drop (k + 1)) = n ∧ oneP p rs c (es.getD k nilE) = some (oneD p rs c (es.getD k nilE)) := by
 rw [longL_at hk] at h
 cases e : oneP p rs c (es.getD k nilE) with
 | none => rw [e] at hn; cases hn
 | some d => rw [e] at h; unfold oneD; rw [e]; exact ⟨by simp only [Option.getD_some]; simp only at h; omega, rfl⟩
end Go.Proofs.YtbdjcgjdmhgnmaaGreat

