/-
  Problems with other versions: the plain functions. Printed by wip/tools/mkcp.py.
-/
import Derived.Test.YtliooohflhogpaaGreatDoorFlP
namespace Go.Proofs.YtliooohflhogpaaGreatDoor
open Go Go.RowKit
set_option maxRecDepth 100000
set_option maxHeartbeats 4000000
set_option linter.unusedSimpArgs false
set_option linter.unusedVariables false
/-- A table of few entries. -/
def matLt (m : List (List Bool)) : Prop := m.length ≤ 8 ∧ ∀ r ∈ m, r.length ≤ 8
def tabLt (t : Tab) : Prop := matLt t.ok ∧ matLt t.rw
def probLt (p : Prob) : Prop := p.vs.length ≤ 10 ∧ p.now.length ≤ 10 ∧ p.tgt.length ≤ 10 ∧ p.tabs.length ≤ 14 ∧ ∀ t ∈ p.tabs, tabLt t
theorem fewTab_lt {t : Tab} (h : fewTab t = true) : tabLt t := by
  simp only [fewTab, fewRow, Bool.and_eq_true, decide_eq_true_eq, List.all_eq_true] at h
  exact ⟨⟨h.1, h.2.2.1⟩, ⟨h.2.1, h.2.2.2⟩⟩
theorem fewP_lt {p : Prob} (h : fewP p = true) : probLt p := by
  simp only [fewP, Bool.and_eq_true, decide_eq_true_eq, List.all_eq_true] at h
  exact ⟨by omega, by omega, by omega, h.2.2.2.1, fun t ht => fewTab_lt (h.2.2.2.2 t ht)⟩
theorem matLt_sm {m : List (List Bool)} (h : matLt m) : matSm m := ⟨by have := h.1; omega, fun r hr => by have := h.2 r hr; omega⟩
theorem tabLt_sm {t : Tab} (h : tabLt t) : tabSm t := ⟨matLt_sm h.1, matLt_sm h.2⟩
theorem probLt_sm {p : Prob} (h : probLt p) : probSm p := by
  obtain ⟨h1, h2, h3, h4, h5⟩ := h
  exact ⟨by omega, by omega, by omega, by omega, fun t ht => tabLt_sm (h5 t ht)⟩
def nilP : Prob := ⟨[], [], [], []⟩
/-- The same problem with another now and target. -/
def btw (p : Prob) (now tgt : List Int) : Prob × Int :=
  if vpErr p = 0 then (if vpErr ⟨p.vs, now, tgt, p.tabs⟩ = 0 then (⟨p.vs, now, tgt, p.tabs⟩, 0) else (nilP, vpErr ⟨p.vs, now, tgt, p.tabs⟩)) else (nilP, vpErr p)
theorem nilP_lt : probLt nilP := ⟨by simp [nilP], by simp [nilP], by simp [nilP], by simp [nilP], by simp [nilP]⟩
theorem btw_lt {p : Prob} {now tgt : List Int} (h : probLt p) (hn : now.length ≤ 10) (ht : tgt.length ≤ 10) : probLt (btw p now tgt).1 := by
  unfold btw
  split
  · split
    · exact ⟨h.1, hn, ht, h.2.2.2.1, h.2.2.2.2⟩
    · exact nilP_lt
  · exact nilP_lt
theorem dTabs_take {ts : List Tab} {k : Nat} (h : k < ts.length) : dTabs (ts.take (k + 1)) = dTabs (ts.take k) ++ [tabRow ts[k]] := by
  rw [List.take_add_one, List.getElem?_eq_getElem h]; simp only [dTabs, Option.toList_some, List.map_append, List.map_cons, List.map_nil]
theorem dMat_take {m : List (List Bool)} {k : Nat} (h : k < m.length) : dMat (m.take (k + 1)) = dMat (m.take k) ++ [[.sl 1 (dBools m[k])]] := by
  rw [List.take_add_one, List.getElem?_eq_getElem h]; simp only [dMat, Option.toList_some, List.map_append, List.map_cons, List.map_nil]
theorem dMat_set {m : List (List Bool)} {k : Nat} (h : k < m.length) : (dMat m).set (k : Int).toNat [.sl 1 (dBools m[k])] = dMat m := by
  apply List.ext_getElem
  · simp
  · intro i h1 h2
    rw [List.getElem_set]
    split
    · rename_i e
      simp at e
      subst e
      simp [dMat]
    · rfl
end Go.Proofs.YtliooohflhogpaaGreatDoor
