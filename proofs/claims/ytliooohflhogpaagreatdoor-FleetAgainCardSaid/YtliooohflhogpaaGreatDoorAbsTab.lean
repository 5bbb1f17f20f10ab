/-
  Runs of the abstract machine that are known already: a table of calls.
-/
import Derived.Test.YtliooohflhogpaaGreatDoorGf
namespace Go.Proofs.YtliooohflhogpaaGreatDoor
open Go Go.RowKit
set_option linter.unusedSimpArgs false
set_option linter.unusedVariables false
def vEq : Value → Value → Bool
  | .bool a, .bool b => a == b
  | .int k a, .int l b => decide (k = l) && decide (a = b)
  | .string a, .string b => decide (a.data.toList = b.data.toList)
  | _, _ => false
theorem vEq_ok : ∀ {a b : Value}, vEq a b = true → a = b := by
  intro a b h
  unfold vEq at h
  split at h
  · rw [beq_iff_eq.1 h]
  · simp only [Bool.and_eq_true, decide_eq_true_eq] at h; rw [h.1, h.2]
  · rename_i a b
    have h1 := of_decide_eq_true h
    obtain ⟨⟨a⟩⟩ := a
    obtain ⟨⟨b⟩⟩ := b
    simp at h1
    rw [h1]
  · cases h
mutual
def dEq : D → D → Bool
  | .v x, .v y => vEq x y
  | .sl n r, .sl m s => decide (n = m) && rowsEq r s
  | _, _ => false
def rowsEq : List (List D) → List (List D) → Bool
  | [], [] => true
  | a :: r, b :: s => rowEq a b && rowsEq r s
  | _, _ => false
def rowEq : List D → List D → Bool
  | [], [] => true
  | a :: r, b :: s => dEq a b && rowEq r s
  | _, _ => false
end
mutual
theorem dEq_ok : ∀ (a b : D), dEq a b = true → a = b
  | .v x, .v y, h => by
    have h' : vEq x y = true := by simpa [dEq] using h
    rw [vEq_ok h']
  | .sl n r, .sl m s, h => by
    simp only [dEq, Bool.and_eq_true, decide_eq_true_eq] at h
    rw [h.1, rowsEq_ok r s h.2]
  | .v _, .sl .., h => by simp [dEq] at h
  | .sl .., .v _, h => by simp [dEq] at h
theorem rowsEq_ok : ∀ (a b : List (List D)), rowsEq a b = true → a = b
  | [], [], _ => rfl
  | a :: r, b :: s, h => by
    simp only [rowsEq, Bool.and_eq_true] at h
    rw [rowEq_ok a b h.1, rowsEq_ok r s h.2]
  | [], _ :: _, h => by simp [rowsEq] at h
  | _ :: _, [], h => by simp [rowsEq] at h
theorem rowEq_ok : ∀ (a b : List D), rowEq a b = true → a = b
  | [], [], _ => rfl
  | a :: r, b :: s, h => by
    simp only [rowEq, Bool.and_eq_true] at h
    rw [dEq_ok a b h.1, rowEq_ok r s h.2]
  | [], _ :: _, h => by simp [rowEq] at h
  | _ :: _, [], h => by simp [rowEq] at h
end
def cEq : C → C → Bool
  | .d a, .d b => dEq a b
  | .zero, .zero => true
  | _, _ => false
def csEq : List C → List C → Bool
  | [], [] => true
  | a :: r, b :: s => cEq a b && csEq r s
  | _, _ => false
def argsEq : List Arg → List Arg → Bool
  | [], [] => true
  | .val x a :: r, .val y b :: s => (x == y) && (csEq a b && argsEq r s)
  | _, _ => false
theorem cEq_ok {a b : C} (h : cEq a b = true) : a = b := by
  unfold cEq at h
  split at h
  · rw [dEq_ok _ _ h]
  · rfl
  · cases h
theorem csEq_ok : ∀ {a b : List C}, csEq a b = true → a = b
  | [], [], _ => rfl
  | a :: r, b :: s, h => by
    simp only [csEq, Bool.and_eq_true] at h
    rw [cEq_ok h.1, csEq_ok h.2]
  | [], _ :: _, h => by simp [csEq] at h
  | _ :: _, [], h => by simp [csEq] at h
theorem argsEq_ok : ∀ {a b : List Arg}, argsEq a b = true → a = b
  | [], [], _ => rfl
  | .val x a :: r, .val y b :: s, h => by
    simp only [argsEq, Bool.and_eq_true, beq_iff_eq] at h
    rw [h.1, csEq_ok h.2.1, argsEq_ok h.2.2]
  | .io .. :: _, .val .. :: _, h => by simp [argsEq] at h
  | .val .. :: _, .io .. :: _, h => by simp [argsEq] at h
  | .io .. :: _, .io .. :: _, h => by simp [argsEq] at h
  | [], _ :: _, h => by simp [argsEq] at h
  | .val .. :: _, [], h => by simp [argsEq] at h
  | .io .. :: _, [], h => by simp [argsEq] at h
abbrev CallT := List (FuncId × List Arg × ARes)
def lookT : CallT → FuncId → List Arg → Option ARes
  | [], _, _ => none
  | (g, xs, r) :: T, f, args => if f = g && argsEq args xs then some r else lookT T f args
/-- Known calls first. -/
def extT (T : CallT) (base : CallF) : CallF := fun f args bxs => match bxs with
  | [] => match lookT T f args with
    | some r => some r
    | none => base f args []
  | _ => base f args bxs
def TabOk (P : Program) : CallT → Prop
  | [] => True
  | (g, xs, r) :: T => FnSound P g xs [] r ∧ TabOk P T
theorem lookT_ok {P : Program} : ∀ {T : CallT}, TabOk P T → ∀ {f : FuncId} {args : List Arg} {r : ARes}, lookT T f args = some r → FnSound P f args [] r
  | [], _, f, args, r, he => by cases he
  | (g, xs, r0) :: T, h, f, args, r, he => by
    unfold lookT at he
    split at he
    · rename_i hc
      simp only [Bool.and_eq_true, decide_eq_true_eq] at hc
      cases he
      rw [hc.1, argsEq_ok hc.2]
      exact h.1
    · exact lookT_ok h.2 he
theorem extT_ok {P : Program} {T : CallT} {base : CallF} (hT : TabOk P T) (hb : CallOk P base) : CallOk P (extT T base) := by
  intro f args bxs r he
  unfold extT at he
  split at he
  · split at he
    · rename_i r' hr
      cases he
      exact lookT_ok hT hr
    · exact hb _ _ _ _ he
  · exact hb _ _ _ _ he
end Go.Proofs.YtliooohflhogpaaGreatDoor
