/-
  The walks of the reference's numerals.
-/
import Derived.Test.YtfpcpjnmffbhgaaDoorStatP
namespace Go.Proofs.YtfpcpjnmffbhgaaDoor
open Go Go.RowKit
set_option linter.unusedSimpArgs false
set_option linter.unusedVariables false
set_option maxHeartbeats 2000000
set_option maxRecDepth 20000
theorem enc_digit : ∀ (k : Nat), k < 10 → Utf8.encode (48 + (k : Int)) = ⟨#[UInt8.ofNat (48 + k)]⟩
  | 0, _ => by kernel_rfl
  | 1, _ => by kernel_rfl
  | 2, _ => by kernel_rfl
  | 3, _ => by kernel_rfl
  | 4, _ => by kernel_rfl
  | 5, _ => by kernel_rfl
  | 6, _ => by kernel_rfl
  | 7, _ => by kernel_rfl
  | 8, _ => by kernel_rfl
  | 9, _ => by kernel_rfl
  | n + 10, h => by omega
theorem naturalC : ∀ (n : Nat) (h : n < 18446744073709551616) (w : World), Calls Tryd.prog 23 #[.int .u64 n] w fun e w' => e = .returned (.string (dig n)) ∧ w' = w := by
  intro n
  induction n using Nat.strongRecOn with
  | _ n ih =>
    intro h w
    by_cases hs : n < 10
    · have h1 : (n : Int) < 10 := by omega
      go_enter Tryd.func23, Tryd.ntmps23
      go_wp2_with fail
      rw [enc_digit n hs, ← dig_small hs]
      go_ret
      exact ⟨rfl, rfl⟩
    · have h1 : ¬ (n : Int) < 10 := by omega
      have hB := hid (dig_big hs)
      have e1 : Hid ((n : Int) / 10 = ((n / 10 : Nat) : Int)) := by show (n : Int) / 10 = ((n / 10 : Nat) : Int); omega
      have e2 : Hid ((n : Int) % 10 = ((n % 10 : Nat) : Int)) := by show (n : Int) % 10 = ((n % 10 : Nat) : Int); omega
      have hE : Utf8.encode (48 + (n : Int) % 10) = ⟨#[UInt8.ofNat (48 + n % 10)]⟩ := by rw [e2.out]; exact enc_digit (n % 10) (by omega)
      generalize UInt8.ofNat (48 + n % 10) = dd at hE hB
      have hz := dig_size (n := n / 10) (by omega)
      go_enter Tryd.func23, Tryd.ntmps23
      go_wp2_with fail
      rw [e1.out]
      refine (ih (n / 10) (by omega) (by omega) w).mono ?_
      rintro e w' ⟨rfl, rfl⟩
      go_wp2_with fail
      rw [← hB.out]
      go_ret
      exact ⟨rfl, rfl⟩
theorem digitsC (n : Int) (h : -9223372036854775808 ≤ n ∧ n ≤ 9223372036854775807) (w : World) : Calls Tryd.prog 13 #[.int .i64 n] w fun e w' => e = .returned (.string (txt n)) ∧ w' = w := by
  by_cases hs : n < 0
  · have hz := dig_size (n := n.natAbs) (by omega)
    go_enter Tryd.func13, Tryd.ntmps13
    go_wp2_with fail
    have e1 : -(n + 1) + 1 = (n.natAbs : Int) := by omega
    rw [e1]
    clear e1
    refine (naturalC n.natAbs (by omega) w).mono ?_
    rintro e w' ⟨rfl, rfl⟩
    go_wp2_with fail
    rw [← txt_neg hs]
    go_ret
    exact ⟨rfl, rfl⟩
  · go_enter Tryd.func13, Tryd.ntmps13
    go_wp2_with fail
    have e1 : n = (n.toNat : Int) := by omega
    have hC := naturalC n.toNat (by omega) w
    rw [← e1, ← txt_pos (by omega)] at hC
    clear e1
    refine hC.mono ?_
    rintro e w' ⟨rfl, rfl⟩
    go_wp2_with fail
    go_ret
    exact ⟨rfl, rfl⟩
end Go.Proofs.YtfpcpjnmffbhgaaDoor
