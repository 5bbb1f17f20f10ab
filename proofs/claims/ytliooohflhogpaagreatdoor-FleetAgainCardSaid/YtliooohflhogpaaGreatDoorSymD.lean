/-
  Plain data as the abstract machine sees it: numbers, sets, steps, mixes.
-/
import Derived.Test.YtliooohflhogpaaGreatDoorTypes
namespace Go.Proofs.YtliooohflhogpaaGreatDoor
open Go Go.RowKit
set_option linter.unusedSimpArgs false
set_option linter.unusedVariables false
def dInts (xs : List Int) : List (List D) := xs.map fun x => [.v (.int .i64 x)]
def dSets (xs : List Int) : List (List D) := xs.map fun x => [.v (.int .u8 x)]
theorem dInts_len (xs : List Int) : (dInts xs).length = xs.length := by simp [dInts]
theorem dSets_len (xs : List Int) : (dSets xs).length = xs.length := by simp [dSets]
theorem dInts_at {xs : List Int} {k : Nat} (h : k < xs.length) : (dInts xs)[(k : Int).toNat]? = some [.v (.int .i64 xs[k])] := by simp [dInts, h]
theorem dSets_at {xs : List Int} {k : Nat} (h : k < xs.length) : (dSets xs)[(k : Int).toNat]? = some [.v (.int .u8 xs[k])] := by simp [dSets, h]
theorem dInts_take {xs : List Int} {k : Nat} (h : k < xs.length) : dInts (xs.take (k + 1)) = dInts (xs.take k) ++ [[.v (.int .i64 xs[k])]] := by
  rw [List.take_add_one, List.getElem?_eq_getElem h]; simp only [dInts, Option.toList_some, List.map_append, List.map_cons, List.map_nil]
theorem wrap_i64 {n : Int} (h : -9223372036854775808 ≤ n ∧ n ≤ 9223372036854775807) : IntKind.i64.wrap n = n := by
  simp [IntKind.wrap, IntKind.signed, IntKind.bits]; omega
theorem wrap_succ {k : Nat} (h : k < 9223372036854775807) : IntKind.i64.wrap ((k : Int) + 1) = ((k + 1 : Nat) : Int) := by
  rw [wrap_i64 (by omega)]; simp
end Go.Proofs.YtliooohflhogpaaGreatDoor
