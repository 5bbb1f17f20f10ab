/-
  The examples of chapter 53 hold: awake() returns true.
-/
import Derived.Test.YtfpcpjnmffbhgaaDoorAbsE2
import Derived.Test.YtfpcpjnmffbhgaaDoorNum
namespace Go.Proofs.YtfpcpjnmffbhgaaDoor
open Go Go.RowKit
set_option linter.unusedSimpArgs false
set_option linter.unusedVariables false
/-- The numeral of a number below 100. -/
def numS (n : Nat) : ByteArray := if n < 10 then ⟨#[UInt8.ofNat (48 + n)]⟩ else ⟨#[UInt8.ofNat (48 + n / 10), UInt8.ofNat (48 + n % 10)]⟩
theorem numS_eq {n : Nat} (h : n < 100) : (⟨(Lib.decDigits n).toArray⟩ : ByteArray) = numS n := by
  unfold numS
  by_cases h10 : n < 10
  · rw [Lib.decDigits, dif_pos h10, if_pos h10]
  · rw [Lib.decDigits, dif_neg h10, Lib.decDigits, dif_pos (by omega : n / 10 < 10), if_neg h10]
    rfl
def itoaX : List Arg → Option ARes
  | [.val false [.d (.v (.int .i64 n))]] => if 0 ≤ n ∧ n < 100 then some { vals := [(false, [.d (.v (.string (numS n.toNat)))])] } else none
  | _ => none
def fmtX : List Arg → Option ARes
  | [.val false [.d (.v (.int .i64 n))], .val false [.d (.v (.int .i64 b))]] => if 0 ≤ n ∧ n < 100 ∧ b = 10 then some { vals := [(false, [.d (.v (.string (numS n.toNat)))])] } else none
  | _ => none
theorem itoa_fn {args : List Arg} {r : ARes} (he : itoaX args = some r) : FnSound Tryd.prog 11 args [] r := by
  unfold itoaX at he
  split at he
  · rename_i n
    split at he
    · rename_i hn
      cases he
      refine fn_data rfl fun V X Z ρ w vals hl hR => ?_
      have hv := vals_one hl
      have h1 := conV_sound (x := .int .i64 n) rfl (args_val hR (i := 0) rfl).2
      rw [h1] at hv
      rw [hv]
      have hC := Tryd.strconv_Itoa_small n.toNat (by omega) w
      rw [numS_eq (by omega)] at hC
      have e1 : ((n.toNat : Nat) : Int) = n := by omega
      rw [e1] at hC
      refine hC.mono ?_
      rintro e w' ⟨rfl, rfl⟩
      exact ⟨_, rfl, ext_refl _, fun S hS ρ' ok' => one1 (.v rfl)⟩
    · cases he
  · cases he
theorem fmt_fn {args : List Arg} {r : ARes} (he : fmtX args = some r) : FnSound Tryd.prog 12 args [] r := by
  unfold fmtX at he
  split at he
  · rename_i n b
    split at he
    · rename_i hn
      cases he
      refine fn_data rfl fun V X Z ρ w vals hl hR => ?_
      have hv := vals_two hl
      have h1 := conV_sound (x := .int .i64 n) rfl (args_val hR (i := 0) rfl).2
      have h2 := conV_sound (x := .int .i64 b) rfl (args_val hR (i := 1) rfl).2
      rw [h1, h2, hn.2.2] at hv
      rw [hv]
      have hC := Tryd.strconv_FormatInt_10_small n.toNat (by omega) w
      rw [numS_eq (by omega)] at hC
      have e1 : ((n.toNat : Nat) : Int) = n := by omega
      rw [e1] at hC
      refine hC.mono ?_
      rintro e w' ⟨rfl, rfl⟩
      exact ⟨_, rfl, ext_refl _, fun S hS ρ' ok' => one1 (.v rfl)⟩
    · cases he
  · cases he
def extF : CallF := fun f args bxs => match bxs with
  | [] =>
    if f = 28 then cloneX 3 1 8 args
    else if f = 32 then cloneX 85 1 1 args
    else if f = 17 then cloneX 58 3 24 args
    else if f = 29 then repeatX 3 args
    else if f = 88 then afterX args
    else if f = 11 then itoaX args
    else if f = 12 then fmtX args
    else none
  | _ => none
theorem extF_ok : CallOk Tryd.prog extF := by
  intro f args bxs r he
  unfold extF at he
  split at he
  · split at he
    · rename_i h; subst h; exact clone_fn (by omega) (fun A n c xs w h1 h2 h3 h4 => cloneInt A n c xs w h1 h2 h3 h4) he
    · split at he
      · rename_i h; subst h; exact clone_fn (by omega) (fun A n c xs w h1 h2 h3 h4 => cloneSet A n c xs w h1 h2 h3 h4) he
      · split at he
        · rename_i h; subst h; exact clone_fn (by omega) (fun A n c xs w h1 h2 h3 h4 => cloneStep A n c xs w h1 h2 h3 h4) he
        · split at he
          · rename_i h; subst h; exact repeat_fn he
          · split at he
            · rename_i h; subst h; exact after_fn he
            · split at he
              · rename_i h; subst h; exact itoa_fn he
              · split at he
                · rename_i h; subst h; exact fmt_fn he
                · cases he
  · cases he
def annF : Ann := { own := fun _ => false, lend := fun f => f == 36 || f == 58 || f == 80 || f == 85 || f == 98, cl := fun _ s => s, ext := extF }
theorem annF_ok (n : Nat) : CallOk Tryd.prog (acall Tryd.prog annF n) := acall_ok (by kernel_rfl) extF_ok (fun _ _ _ _ _ _ _ _ _ h => h) n
set_option maxRecDepth 100000 in
theorem awake_run : acall Tryd.prog annF 60 4 [] [] = some { vals := [(false, [.d (.v (.bool true))])] } := by kernel_rfl
/-- awake() returns true, whatever memory holds. -/
theorem awake_true (w : World) : Calls Tryd.prog 4 #[] w fun e w' => e = .returned (.bool true) ∧ Below w.heap.size w w' := by
  have := annF_ok 60 _ _ _ _ awake_run (fun _ => False) (fun _ => False) (fun _ => none) (fun _ => ⟨none, none, 0, 0, 0⟩) w [] rfl
    ⟨rfl, rfl, (fun t av ht => by cases ht), (fun q box hq => by cases hq), (fun q1 b1 q2 b2 b e1 => by cases e1), (fun q box b hq => by cases hq), Keep.refl _ _, (fun b hb => False.elim hb), (fun q hq => ⟨by omega, rfl⟩)⟩
  refine this.mono ?_
  rintro e w' ⟨v, ρ', rfl, hR⟩
  have h1 := (hR.tm 0 _ rfl).2
  have h2 : v = .bool true := conV_sound (av := .one false [.d (.v (.bool true))]) (x := .bool true) rfl h1
  exact ⟨by rw [h2], hR.fr.below (Nat.le_refl _) (fun b _ h => h)⟩
end Go.Proofs.YtfpcpjnmffbhgaaDoor
