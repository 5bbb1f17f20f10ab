/-
  The examples of the chapter hold: awake() returns true.
-/
import Derived.Test.YtheklfcealopdaaAbsE2
namespace Go.Proofs.Ytheklfcealopdaa
open Go Go.RowKit
set_option linter.unusedSimpArgs false
set_option linter.unusedVariables false
def extF : CallF := fun f args bxs => match bxs with
  | [] =>
    if f = 40 then cloneX 3 1 8 args
    else if f = 71 then cloneX 59 1 1 args
    else if f = 28 then cloneX 43 3 24 args
    else if f = 41 then repeatX 3 args
    else if f = 68 then afterX args
    else none
  | _ => none
theorem extF_ok : CallOk Try.prog extF := by
  intro f args bxs r he
  unfold extF at he
  split at he
  · split at he
    · rename_i h; subst h; exact clone_fn (by omega) (fun A n c xs w h1 h2 h3 h4 => cloneInt A n c xs w h1 h2 h3 h4) he
    · split at he
      · rename_i h; subst h; exact clone_fn (by omega) (fun A n c xs w h1 h2 h3 h4 => cloneSet A n c xs w h1 h2 h3 h4) he
      · split at he
        · rename_i h; subst h; exact clone_fn (by omega) (fun A n c xs w h1 h2 h3 h4 => cloneStep A n c xs w h1 h2 h3 h4) he
        · split at he
          · rename_i h; subst h; exact repeat_fn he
          · split at he
            · rename_i h; subst h; exact after_fn he
            · cases he
  · cases he
def annF : Ann := { own := fun _ => false, lend := fun f => f == 29 || f == 65 || f == 77, cl := fun _ s => s, ext := extF }
theorem annF_ok (n : Nat) : CallOk Try.prog (acall Try.prog annF n) := acall_ok (by kernel_rfl) extF_ok (fun _ _ _ _ _ _ _ _ _ h => h) n
set_option maxRecDepth 100000 in
theorem awake_run : acall Try.prog annF 60 5 [] [] = some { vals := [(false, [.d (.v (.bool true))])] } := by kernel_rfl
/-- awake() returns true, whatever memory holds. -/
theorem awake_true (w : World) : Calls Try.prog 5 #[] w fun e w' => e = .returned (.bool true) ∧ Below w.heap.size w w' := by
  have := annF_ok 60 _ _ _ _ awake_run (fun _ => False) (fun _ => False) (fun _ => none) (fun _ => ⟨none, none, 0, 0, 0⟩) w [] rfl
    ⟨rfl, rfl, (fun t av ht => by cases ht), (fun q box hq => by cases hq), (fun q1 b1 q2 b2 b e1 => by cases e1), (fun q box b hq => by cases hq), Keep.refl _ _, (fun b hb => False.elim hb), (fun q hq => ⟨by omega, rfl⟩)⟩
  refine this.mono ?_
  rintro e w' ⟨v, ρ', rfl, hR⟩
  have h1 := (hR.tm 0 _ rfl).2
  have h2 : v = .bool true := conV_sound (av := .one false [.d (.v (.bool true))]) (x := .bool true) rfl h1
  exact ⟨by rw [h2], hR.fr.below (Nat.le_refl _) (fun b _ h => h)⟩
end Go.Proofs.Ytheklfcealopdaa
