/-
  From a contract of the abstract machine to a call with arguments that lie in memory; awake().
-/
import Derived.Test.YtliooohflhogpaaGreatDoorAwake35
import Derived.Test.YtliooohflhogpaaGreatDoorFlB
namespace Go.Proofs.YtliooohflhogpaaGreatDoor
open Go Go.RowKit
set_option linter.unusedSimpArgs false
set_option linter.unusedVariables false
theorem awake_fn : FnSound Tryz.prog 7 [] [] { vals := [(false, [.d (.v (.bool true))])] } := annT_ok T48_ok 40 _ _ _ _ awake_run
def ρ0 : Key → Hd := fun _ => ⟨none, none, 0, 0, 0⟩
def S0 : Nat → Prop := Im (fun _ => False) ρ0 (lk ([] : List (Key × Box)))
theorem S0_all (b : Nat) : S0 b := ⟨fun h => h, fun q box hq => by cases hq⟩
def valArgs (xs : List (Bool × List C)) : List Arg := xs.map fun x => .val x.1 x.2
theorem argTm_val : ∀ (xs : List (Bool × List C)) (i t : Nat) (av : AV), lk (argTm i (valArgs xs)) t = some av → i ≤ t ∧ ∃ x, xs[t - i]? = some x ∧ av = .one x.1 x.2
  | [], i, t, av, h => by cases h
  | x :: xs, i, t, av, h => by
    have h' : (if t = i then some (AV.one x.1 x.2) else lk (argTm (i + 1) (valArgs xs)) t) = some av := h
    split at h'
    · rename_i e
      subst e
      cases h'
      exact ⟨Nat.le_refl _, x, by simp, rfl⟩
    · obtain ⟨h1, y, h2, h3⟩ := argTm_val xs (i + 1) t av h'
      refine ⟨by omega, y, ?_, h3⟩
      rw [show t - i = (t - (i + 1)) + 1 by omega, List.getElem?_cons_succ]
      exact h2
theorem argBx_val : ∀ (xs : List (Bool × List C)) (i : Nat), argBx i (valArgs xs) = []
  | [], _ => rfl
  | x :: xs, i => argBx_val xs (i + 1)
theorem ioBx_val : ∀ (xs : List (Bool × List C)) (i : Nat), ioBx i (valArgs xs) [] = []
  | [], _ => rfl
  | x :: xs, i => ioBx_val xs (i + 1)
theorem calls_of_fn {P : Program} {f : FuncId} {xs : List (Bool × List C)} {vals : List Value} {w : World} (h : FnSound P f (valArgs xs) [] { vals := [(false, [.d (.v (.bool true))])] }) (hl : vals.length = xs.length)
    (hv : ∀ (i : Nat) (x : Bool × List C), xs[i]? = some x → AVRel (CRel S0 ρ0 (fun q => q.2 < 1) w) (.one x.1 x.2) (vals.getD i undef)) : Calls P f vals.toArray w fun e w' => e = .returned (.bool true) ∧ Below w.heap.size w w' := by
  have := h (fun _ => False) (fun _ => False) (fun _ => none) ρ0 w vals (by simp [valArgs, hl])
    ⟨by simp, rfl, (fun t av ht => by
      obtain ⟨_, x, h2, rfl⟩ := argTm_val xs 0 t av ht
      have h3 : xs[t]? = some x := by simpa using h2
      refine ⟨by rw [hl]; exact (List.getElem?_eq_some_iff.1 h3).1, ?_⟩
      have e1 : (⟨vals.toArray, []⟩ : Act).tmps.getD t undef = vals.getD t undef := by simp [Array.getD_eq_getD_getElem?]
      rw [e1, argBx_val]
      exact hv t x h3), (fun q box hq => by rw [argBx_val] at hq; cases hq), (fun q1 b1 q2 b2 b e1 => by rw [argBx_val] at e1; cases e1), (fun q box b hq => by rw [argBx_val] at hq; cases hq), Keep.refl _ _, (fun b hb => False.elim hb), (fun q hq => ⟨by omega, rfl⟩)⟩
  refine this.mono ?_
  rintro e w' ⟨v, ρ', rfl, hR⟩
  have h1 := (hR.tm 0 _ rfl).2
  have h2 : v = .bool true := conV_sound (av := .one false [.d (.v (.bool true))]) (x := .bool true) rfl h1
  exact ⟨by rw [h2], hR.fr.below (Nat.le_refl _) (fun b _ h => h)⟩
end Go.Proofs.YtliooohflhogpaaGreatDoor
