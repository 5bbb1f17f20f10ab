/-
  Problems as the abstract machine sees them.
-/
import Derived.Test.YtliooohflhogpaaGreatDoorSymD
import Derived.Test.YtliooohflhogpaaGreatDoorGa
namespace Go.Proofs.YtliooohflhogpaaGreatDoor
open Go Go.RowKit
set_option linter.unusedSimpArgs false
set_option linter.unusedVariables false
def dBools (xs : List Bool) : List (List D) := xs.map fun x => [.v (.bool x)]
def dMat (m : List (List Bool)) : List (List D) := m.map fun r => [.sl 1 (dBools r)]
def tabRow (t : Tab) : List D := [.v (.int .i64 t.kind), .v (.int .i64 t.frm), .v (.int .i64 t.tto), .v (.bool t.aware), .sl 1 (dMat t.ok), .sl 1 (dMat t.rw)]
def dTabs (ts : List Tab) : List (List D) := ts.map tabRow
def probC (p : Prob) : List C := [.d (.sl 1 (dInts p.vs)), .d (.sl 1 (dInts p.now)), .d (.sl 1 (dInts p.tgt)), .d (.sl 6 (dTabs p.tabs))]
theorem dBools_len (xs : List Bool) : (dBools xs).length = xs.length := by simp [dBools]
theorem dMat_len (m : List (List Bool)) : (dMat m).length = m.length := by simp [dMat]
theorem dTabs_len (ts : List Tab) : (dTabs ts).length = ts.length := by simp [dTabs]
theorem dBools_at {xs : List Bool} {k : Nat} (h : k < xs.length) : (dBools xs)[(k : Int).toNat]? = some [.v (.bool xs[k])] := by simp [dBools, h]
theorem dMat_at {m : List (List Bool)} {k : Nat} (h : k < m.length) : (dMat m)[(k : Int).toNat]? = some [.sl 1 (dBools m[k])] := by simp [dMat, h]
theorem dTabs_at {ts : List Tab} {k : Nat} (h : k < ts.length) : (dTabs ts)[(k : Int).toNat]? = some (tabRow ts[k]) := by simp [dTabs, h]
theorem take_next {α : Type} {xs ys : List α} {k : Nat} (hx : k < xs.length) (hy : k < ys.length) (h : xs.take k = ys.take k) (he : xs[k] = ys[k]) : xs.take (k + 1) = ys.take (k + 1) := by
  rw [List.take_add_one, List.take_add_one, List.getElem?_eq_getElem hx, List.getElem?_eq_getElem hy, h, he]
theorem take_all {α : Type} {xs ys : List α} (hl : xs.length = ys.length) (h : xs.take xs.length = ys.take xs.length) : xs = ys := by
  rw [List.take_length, hl, List.take_length] at h
  exact h
end Go.Proofs.YtliooohflhogpaaGreatDoor
