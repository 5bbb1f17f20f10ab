/-
  Decimal numerals and the text of a state (plain), and the contracts of the numerals.
-/
import Derived.Test.YtfpcpjnmffbhgaaDoorGrow
import Derived.Test.YtfpcpjnmffbhgaaDoorNum
import Derived.Lib.AppendIntMem
namespace Go.Proofs.YtfpcpjnmffbhgaaDoor
open Go Go.RowKit
set_option linter.unusedSimpArgs false
set_option linter.unusedVariables false
def txt (n : Int) : ByteArray := ⟨(Lib.itoa n).toArray⟩
def dig (n : Nat) : ByteArray := ⟨(Lib.decDigits n).toArray⟩
theorem nDigits_le {n : Nat} (h : n < 18446744073709551616) : Lib.nDigits n ≤ 20 := by
  rcases Nat.lt_or_ge 20 (Lib.nDigits n) with h1 | h1
  · exfalso
    have key : ∀ (k u : Nat), u < 10 ^ (k + 1) → Lib.nDigits u ≤ k + 1 := by
      intro k
      induction k with
      | zero => intro u hu; rw [Lib.nDigits_small (by simpa using hu)]; omega
      | succ k ih =>
        intro u hu
        by_cases hs : u < 10
        · rw [Lib.nDigits_small hs]; omega
        · rw [Lib.nDigits_big hs]
          have := ih (u / 10) (by rw [Nat.pow_succ] at hu; omega)
          omega
    have := key 19 n (by omega)
    omega
  · exact h1
theorem dig_size {n : Nat} (h : n < 18446744073709551616) : (dig n).size ≤ 20 := by
  have : (dig n).size = (Lib.decDigits n).length := by simp [dig, ByteArray.size]
  rw [this, Lib.decDigits_eq]
  simpa using nDigits_le h
theorem txt_size {n : Int} (h : -9223372036854775808 ≤ n ∧ n ≤ 9223372036854775807) : (txt n).size ≤ 21 := by
  unfold txt Lib.itoa
  split
  · have h1 := dig_size (n := n.natAbs) (by omega)
    simp [dig, ByteArray.size] at h1 ⊢
    omega
  · have h1 := dig_size (n := n.toNat) (by omega)
    simp [dig, ByteArray.size] at h1 ⊢
    omega
theorem dig_small {n : Nat} (h : n < 10) : dig n = ⟨#[UInt8.ofNat (48 + n)]⟩ := by unfold dig; rw [Lib.decDigits, dif_pos h]
theorem dig_big {n : Nat} (h : ¬ n < 10) : dig n = dig (n / 10) ++ ⟨#[UInt8.ofNat (48 + n % 10)]⟩ := by
  unfold dig
  rw [Lib.decDigits, dif_neg h]
  apply ByteArray.ext
  simp
theorem txt_neg {n : Int} (h : n < 0) : txt n = ⟨#[45]⟩ ++ dig n.natAbs := by
  unfold txt Lib.itoa dig
  rw [if_pos h]
  apply ByteArray.ext
  simp
theorem txt_pos {n : Int} (h : ¬ n < 0) : txt n = dig n.toNat := by unfold txt Lib.itoa dig; rw [if_neg h]
theorem TabIs_ext {P : Program} {w w' : World} {name : String} {k : IntKind} {zs : List Int} (h : Lib.TabIs P w name k zs) (hb : Below w.heap.size w w') : Lib.TabIs P w' name k zs := by
  unfold Lib.TabIs World.var? at h ⊢
  obtain ⟨g, h1, h2⟩ := Option.bind_eq_some_iff.1 h
  rw [h1]
  simp only [Option.bind_some] at h2 ⊢
  have hg : g < w.heap.size := by
    rcases Nat.lt_or_ge g w.heap.size with hl | hl
    · exact hl
    · rw [Array.getElem?_eq_none hl] at h2; simp at h2
  rw [hb.block g hg]
  exact h2
abbrev TabW (w : World) : Prop := Lib.TabIs Tryd.prog w "internal/strconv.uint64pow10" .u64 Lib.pow10Tab
theorem itoaC (n : Int) (h : -9223372036854775808 ≤ n ∧ n ≤ 9223372036854775807) (w : World) (ht : TabW w) : Calls Tryd.prog 11 #[.int .i64 n] w fun e w' => e = .returned (.string (txt n)) ∧ Below w.heap.size w w' := by
  refine (Tryd.strconv_Itoa n h.1 h.2 w ht).mono ?_
  rintro e w' ⟨rfl, k, os, rfl⟩
  exact ⟨rfl, Lib.below_grow _ _ (Nat.le_refl _) k os⟩
theorem fmtC (n : Int) (h : -9223372036854775808 ≤ n ∧ n ≤ 9223372036854775807) (w : World) (ht : TabW w) : Calls Tryd.prog 12 #[.int .i64 n, .int .i64 10] w fun e w' => e = .returned (.string (txt n)) ∧ Below w.heap.size w w' := by
  refine (Tryd.strconv_FormatInt_10 n h.1 h.2 w ht).mono ?_
  rintro e w' ⟨rfl, k, os, rfl⟩
  exact ⟨rfl, Lib.below_grow _ _ (Nat.le_refl _) k os⟩
end Go.Proofs.YtfpcpjnmffbhgaaDoor
