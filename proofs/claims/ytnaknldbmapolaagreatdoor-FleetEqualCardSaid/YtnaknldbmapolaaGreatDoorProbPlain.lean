/-
  The error of a problem (layer 35), as plain functions.
-/
import Derived.Test.YtnaknldbmapolaaGreatDoorData
namespace Go.Proofs.YtnaknldbmapolaaGreatDoor
open Go.RowKit
set_option linter.unusedSimpArgs false
set_option linter.unusedVariables false
def sqRows (l : List (List Bool)) (m : Int) : Bool := l.all fun r => (r.length : Int) == m
def sq (l : List (List Bool)) (n m : Int) : Bool := ((l.length : Int) == n) && sqRows l m
/-- From place i on, entry i of row i is true. -/
def diagFrom : List (List Bool) → Nat → Bool
  | [], _ => true
  | r :: rest, i => r.getD i false && diagFrom rest (i + 1)
def kindOK (k : Int) (aware : Bool) : Bool := decide (1 ≤ k ∧ k ≤ 4 ∧ ¬ (aware = true ∧ (k = 3 ∨ k = 4)))
def storedB (k : Int) : Bool := decide (k = 3 ∨ k = 4)
def withinB (k n : Int) : Bool := decide (0 ≤ k ∧ k < n)
def tabErr (vs : List Int) (t : Tab) : Int :=
  if kindOK t.kind t.aware = false then 1
  else if withinB t.frm vs.length = false ∨ withinB t.tto vs.length = false then 4
  else if sq t.ok (vs.getD t.frm.toNat 0) (vs.getD t.tto.toNat 0) = false ∨ (t.kind = 4 ∧ sq t.rw (vs.getD t.frm.toNat 0) (vs.getD t.frm.toNat 0) = false) ∨ (¬ t.kind = 4 ∧ 0 < t.rw.length) then 6
  else if diagFrom t.rw 0 = false then 1 else 0
def tabsErr (vs : List Int) : List Tab → Int
  | [] => 0
  | t :: rest => if tabErr vs t ≠ 0 then tabErr vs t else tabsErr vs rest
def rngOK : List Int → List Int → List Int → Bool
  | n :: vs, a :: now, b :: tgt => (decide (1 ≤ n ∧ n ≤ 6) && withinB a n && withinB b n) && rngOK vs now tgt
  | _, _, _ => true
def vpErr (p : Prob) : Int :=
  if 6 < p.vs.length ∨ 12 < p.tabs.length then 3
  else if ¬ p.now.length = p.vs.length ∨ ¬ p.tgt.length = p.vs.length then 6
  else if rngOK p.vs p.now p.tgt = false then 7
  else tabsErr p.vs p.tabs
end Go.Proofs.YtnaknldbmapolaaGreatDoor
