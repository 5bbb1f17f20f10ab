/-
  Problems compared, and small problems: the plain functions.
-/
import Derived.Test.YtliooohflhogpaaGreatDoorFlD
import Derived.Test.YtliooohflhogpaaGreatDoorSymG
namespace Go.Proofs.YtliooohflhogpaaGreatDoor
open Go Go.RowKit
set_option linter.unusedSimpArgs false
set_option linter.unusedVariables false
def eqI (a b : Int) : Bool := decide (a = b)
def eqB (a b : Bool) : Bool := decide (a = b)
def eqRow (a b : List Bool) : Bool := eqBy eqB a b
def eqMat (a b : List (List Bool)) : Bool := eqBy eqRow a b
def eqTab (x y : Tab) : Bool := eqI x.kind y.kind && (eqI x.frm y.frm && (eqI x.tto y.tto && (eqB x.aware y.aware && (eqMat x.ok y.ok && eqMat x.rw y.rw))))
def eqInts (a b : List Int) : Bool := eqBy eqI a b
def eqProb (a b : Prob) : Bool := eqInts a.vs b.vs && (eqInts a.now b.now && (eqInts a.tgt b.tgt && eqBy eqTab a.tabs b.tabs))
theorem eqI_symm (a b : Int) : eqI a b = eqI b a := by simp [eqI, eq_comm]
theorem eqB_symm (a b : Bool) : eqB a b = eqB b a := by simp [eqB, eq_comm]
theorem eqRow_symm (a b : List Bool) : eqRow a b = eqRow b a := eqBy_symm eqB_symm a b
theorem eqMat_symm (a b : List (List Bool)) : eqMat a b = eqMat b a := eqBy_symm eqRow_symm a b
theorem eqTab_symm (a b : Tab) : eqTab a b = eqTab b a := by simp only [eqTab, eqI_symm a.kind, eqI_symm a.frm, eqI_symm a.tto, eqB_symm a.aware, eqMat_symm a.ok, eqMat_symm a.rw]
theorem eqInts_symm (a b : List Int) : eqInts a b = eqInts b a := eqBy_symm eqI_symm a b
theorem eqProb_symm (a b : Prob) : eqProb a b = eqProb b a := by simp only [eqProb, eqInts_symm a.vs, eqInts_symm a.now, eqInts_symm a.tgt, eqBy_symm eqTab_symm a.tabs]
theorem eqI_refl (a : Int) : eqI a a = true := by simp [eqI]
theorem eqB_refl (a : Bool) : eqB a a = true := by simp [eqB]
theorem eqRow_refl (a : List Bool) : eqRow a a = true := eqBy_refl eqB_refl a
theorem eqMat_refl (a : List (List Bool)) : eqMat a a = true := eqBy_refl eqRow_refl a
theorem eqTab_refl (a : Tab) : eqTab a a = true := by simp [eqTab, eqI_refl, eqB_refl, eqMat_refl]
theorem eqInts_refl (a : List Int) : eqInts a a = true := eqBy_refl eqI_refl a
theorem eqProb_refl (a : Prob) : eqProb a a = true := by simp [eqProb, eqInts_refl, eqBy_refl eqTab_refl]
/-- Few rows, few entries in each. -/
def fewRow (r : List Bool) : Bool := decide (r.length ≤ 8)
def fewTab (t : Tab) : Bool := decide (t.ok.length ≤ 8) && (decide (t.rw.length ≤ 8) && (t.ok.all fewRow && t.rw.all fewRow))
def fewP (p : Prob) : Bool := decide (p.vs.length ≤ 8) && (decide (p.now.length ≤ 8) && (decide (p.tgt.length ≤ 8) && (decide (p.tabs.length ≤ 14) && p.tabs.all fewTab)))
def rowSm (r : List Bool) : Prop := r.length ≤ 4611686018427387904
def matSm (m : List (List Bool)) : Prop := m.length ≤ 4611686018427387904 ∧ ∀ r ∈ m, r.length ≤ 4611686018427387904
def tabSm (t : Tab) : Prop := matSm t.ok ∧ matSm t.rw
def probSm (p : Prob) : Prop := p.vs.length ≤ 4611686018427387904 ∧ p.now.length ≤ 4611686018427387904 ∧ p.tgt.length ≤ 4611686018427387904 ∧ p.tabs.length ≤ 4611686018427387904 ∧ ∀ t ∈ p.tabs, tabSm t
def tabC (t : Tab) : List C := [.d (.v (.int .i64 t.kind)), .d (.v (.int .i64 t.frm)), .d (.v (.int .i64 t.tto)), .d (.v (.bool t.aware)), .d (.sl 1 (dMat t.ok)), .d (.sl 1 (dMat t.rw))]
def same1 : D := .v (.func (.func 28) #[] #[])
end Go.Proofs.YtliooohflhogpaaGreatDoor
