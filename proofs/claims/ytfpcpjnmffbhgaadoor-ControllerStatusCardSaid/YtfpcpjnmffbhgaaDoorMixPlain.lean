/-
  Mixes (layer 36): how they stand in memory, and the error of a mix as a plain function.
-/
import Derived.Test.YtfpcpjnmffbhgaaDoorProbValid
namespace Go.Proofs.YtfpcpjnmffbhgaaDoor
open Go.RowKit
set_option linter.unusedSimpArgs false
set_option linter.unusedVariables false
structure MixD where
  base : List Int
  next : List Int
  held : List Int
def MixAt (w : World) (v : Value) (m : MixD) : Prop :=
  ∃ bA bc nA nc hA hc, v = .agg #[.slice bA m.base.length bc, .slice nA m.next.length nc, .slice hA m.held.length hc] ∧ Cells w bA (ints m.base) ∧ Cells w nA (ints m.next) ∧ Cells w hA (sets m.held) ∧
    m.base.length ≤ 4611686018427387904 ∧ m.next.length ≤ 4611686018427387904 ∧ m.held.length ≤ 4611686018427387904
theorem MixAt.ext {w w' : World} {v : Value} {m : MixD} (h : MixAt w v m) (hb : Below w.heap.size w w') : MixAt w' v m := by
  obtain ⟨bA, bc, nA, nc, hA, hc, h0, h1, h2, h3, h4⟩ := h
  exact ⟨bA, bc, nA, nc, hA, hc, h0, h1.ext hb, h2.ext hb, h3.ext hb, h4⟩
/-- The running versions of a service with a base and a next version. -/
def runSet (b n : Int) : Int := if 0 ≤ n then bits BinOp.or IntKind.u8 (2 ^ b.toNat % 256) (2 ^ n.toNat % 256) else 2 ^ b.toNat % 256
def svcErr : List Int → List Int → List Int → Int
  | n :: vs, b :: base, x :: next => if b < 0 ∨ n ≤ b ∨ x < -1 ∨ n ≤ x then 7 else if b = x then 1 else svcErr vs base next
  | _, _, _ => 0
theorem svc_step {vs base next : List Int} {k : Nat} (h0 : k < vs.length) (h1 : k < base.length) (h2 : k < next.length) :
    svcErr (vs.drop k) (base.drop k) (next.drop k) = if base[k] < 0 ∨ vs[k] ≤ base[k] ∨ next[k] < -1 ∨ vs[k] ≤ next[k] then 7 else if base[k] = next[k] then 1 else svcErr (vs.drop (k + 1)) (base.drop (k + 1)) (next.drop (k + 1)) := by
  rw [drop_cons h0, drop_cons h1, drop_cons h2]; rfl
def heldBad (vs base next : List Int) (t : Tab) (h : Int) : Bool :=
  if storedB t.kind = true then
    (bits BinOp.andNot IntKind.u8 (runSet (base.getD t.frm.toNat 0) (next.getD t.frm.toNat 0)) h != 0) || (bits BinOp.andNot IntKind.u8 h (2 ^ (vs.getD t.frm.toNat 0).toNat % 256 - 1) != 0)
  else (bits BinOp.andNot IntKind.u8 0 h != 0) || (bits BinOp.andNot IntKind.u8 h 0 != 0)
def heldErr (vs base next : List Int) : List Tab → List Int → Int
  | t :: ts, h :: hs => if heldBad vs base next t h = true then 1 else heldErr vs base next ts hs
  | _, _ => 0
def mixErr (p : Prob) (m : MixD) : Int :=
  if vpErr p ≠ 0 then vpErr p
  else if ¬ m.base.length = p.vs.length ∨ ¬ m.next.length = p.vs.length ∨ ¬ m.held.length = p.tabs.length then 6
  else if svcErr p.vs m.base m.next ≠ 0 then svcErr p.vs m.base m.next
  else heldErr p.vs m.base m.next p.tabs m.held
end Go.Proofs.YtfpcpjnmffbhgaaDoor
