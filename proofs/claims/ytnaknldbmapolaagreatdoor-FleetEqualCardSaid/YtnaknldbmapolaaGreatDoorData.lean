/-
  Words for data in memory: rows of cells, matrices, tables, problems; each is kept while memory only grows.
-/
import Derived.Test.YtnaknldbmapolaaGreatDoorKit
namespace Go.Proofs.YtnaknldbmapolaaGreatDoor
open Go.RowKit
set_option linter.unusedSimpArgs false
set_option linter.unusedVariables false
/-- The cells xs stand from an address on, in memory that is there. -/
def Cells (w : World) (A : Option Addr) (xs : List Value) : Prop :=
  ∀ j (h : j < xs.length), ∃ b off, A = some ⟨b, off, none⟩ ∧ b < w.heap.size ∧ w.cell? ⟨b, off + j, none⟩ = some xs[j]
def ints (xs : List Int) : List Value := xs.map (Value.int .i64)
def sets (xs : List Int) : List Value := xs.map (Value.int .u8)
def bools (xs : List Bool) : List Value := xs.map Value.bool
@[simp] theorem ints_length (xs : List Int) : (ints xs).length = xs.length := by simp [ints]
@[simp] theorem sets_length (xs : List Int) : (sets xs).length = xs.length := by simp [sets]
@[simp] theorem bools_length (xs : List Bool) : (bools xs).length = xs.length := by simp [bools]
/-- A matrix: a row of slices. -/
def Mat (w : World) (A : Option Addr) (m : List (List Bool)) : Prop :=
  ∀ i (h : i < m.length), ∃ b off rA rc, A = some ⟨b, off, none⟩ ∧ b < w.heap.size ∧ w.cell? ⟨b, off + i, none⟩ = some (.slice rA (m[i]).length rc) ∧ Cells w rA (bools m[i]) ∧ (m[i]).length ≤ 4611686018427387904
structure Tab where
  kind : Int
  frm : Int
  tto : Int
  aware : Bool
  ok : List (List Bool)
  rw : List (List Bool)
structure Prob where
  vs : List Int
  now : List Int
  tgt : List Int
  tabs : List Tab
def Tabs (w : World) (A : Option Addr) (ts : List Tab) : Prop :=
  ∀ i (h : i < ts.length), ∃ b off okA okc rwA rwc, A = some ⟨b, off, none⟩ ∧ b < w.heap.size ∧ w.cell? ⟨b, off + i * 6, none⟩ = some (.int .i64 (ts[i]).kind) ∧ w.cell? ⟨b, off + i * 6 + 1, none⟩ = some (.int .i64 (ts[i]).frm) ∧
    w.cell? ⟨b, off + i * 6 + 2, none⟩ = some (.int .i64 (ts[i]).tto) ∧ w.cell? ⟨b, off + i * 6 + 3, none⟩ = some (.bool (ts[i]).aware) ∧ w.cell? ⟨b, off + i * 6 + 4, none⟩ = some (.slice okA (ts[i]).ok.length okc) ∧
    w.cell? ⟨b, off + i * 6 + 5, none⟩ = some (.slice rwA (ts[i]).rw.length rwc) ∧ Mat w okA (ts[i]).ok ∧ Mat w rwA (ts[i]).rw ∧ (ts[i]).ok.length ≤ 4611686018427387904 ∧ (ts[i]).rw.length ≤ 4611686018427387904
/-- A slice value that reads as a list of cells. -/
abbrev sv (A : Option Addr) (n c : Nat) : Value := .slice A n c
def ProbAt (w : World) (v : Value) (p : Prob) : Prop :=
  ∃ vA vc nA nc gA gc tA tc, v = .agg #[.slice vA p.vs.length vc, .slice nA p.now.length nc, .slice gA p.tgt.length gc, .slice tA p.tabs.length tc] ∧ Cells w vA (ints p.vs) ∧ Cells w nA (ints p.now) ∧ Cells w gA (ints p.tgt) ∧ Tabs w tA p.tabs ∧
    p.vs.length ≤ 4611686018427387904 ∧ p.now.length ≤ 4611686018427387904 ∧ p.tgt.length ≤ 4611686018427387904 ∧ p.tabs.length ≤ 4611686018427387904
section
variable {w w' : World} {A : Option Addr} {xs : List Value}
theorem Cells.ext (h : Cells w A xs) (hb : Below w.heap.size w w') : Cells w' A xs := fun j hj => by
  obtain ⟨b, off, h1, h2, h3⟩ := h j hj
  exact ⟨b, off, h1, Nat.lt_of_lt_of_le h2 hb.size, (hb.cell (p := ⟨b, off + j, none⟩) h2).trans h3⟩
theorem Mat.ext {m : List (List Bool)} (h : Mat w A m) (hb : Below w.heap.size w w') : Mat w' A m := fun j hj => by
  obtain ⟨b, off, rA, rc, h1, h2, h3, h4, h5⟩ := h j hj
  exact ⟨b, off, rA, rc, h1, Nat.lt_of_lt_of_le h2 hb.size, (hb.cell (p := ⟨b, off + j, none⟩) h2).trans h3, h4.ext hb, h5⟩
theorem Tabs.ext {ts : List Tab} (h : Tabs w A ts) (hb : Below w.heap.size w w') : Tabs w' A ts := fun j hj => by
  obtain ⟨b, off, okA, okc, rwA, rwc, h1, h2, c0, c1, c2, c3, c4, c5, h4, h5, h6⟩ := h j hj
  have k : ∀ o, w'.cell? ⟨b, o, none⟩ = w.cell? ⟨b, o, none⟩ := fun o => hb.cell (p := ⟨b, o, none⟩) h2
  exact ⟨b, off, okA, okc, rwA, rwc, h1, Nat.lt_of_lt_of_le h2 hb.size, (k _).trans c0, (k _).trans c1, (k _).trans c2, (k _).trans c3, (k _).trans c4, (k _).trans c5, h4.ext hb, h5.ext hb, h6⟩
theorem ProbAt.ext {v : Value} {p : Prob} (h : ProbAt w v p) (hb : Below w.heap.size w w') : ProbAt w' v p := by
  obtain ⟨vA, vc, nA, nc, gA, gc, tA, tc, h0, h1, h2, h3, h4, h5⟩ := h
  exact ⟨vA, vc, nA, nc, gA, gc, tA, tc, h0, h1.ext hb, h2.ext hb, h3.ext hb, h4.ext hb, h5⟩
theorem Cells.nil : Cells w A [] := fun j h => absurd h (by simp)
theorem Cells.at_int {l : List Int} (h : Cells w A (ints l)) {k : Nat} (hk : k < l.length) : ∃ b off, A = some ⟨b, off, none⟩ ∧ b < w.heap.size ∧ w.cell? ⟨b, off + k, none⟩ = some (.int .i64 l[k]) := by
  obtain ⟨b, off, h1, h2, h3⟩ := h k (by simpa using hk)
  exact ⟨b, off, h1, h2, by rw [h3]; simp [ints]⟩
theorem Cells.at_set {l : List Int} (h : Cells w A (sets l)) {k : Nat} (hk : k < l.length) : ∃ b off, A = some ⟨b, off, none⟩ ∧ b < w.heap.size ∧ w.cell? ⟨b, off + k, none⟩ = some (.int .u8 l[k]) := by
  obtain ⟨b, off, h1, h2, h3⟩ := h k (by simpa using hk)
  exact ⟨b, off, h1, h2, by rw [h3]; simp [sets]⟩
theorem Cells.at_bool {l : List Bool} (h : Cells w A (bools l)) {k : Nat} (hk : k < l.length) : ∃ b off, A = some ⟨b, off, none⟩ ∧ b < w.heap.size ∧ w.cell? ⟨b, off + k, none⟩ = some (.bool l[k]) := by
  obtain ⟨b, off, h1, h2, h3⟩ := h k (by simpa using hk)
  exact ⟨b, off, h1, h2, by rw [h3]; simp [bools]⟩
end
theorem drop_cons {α : Type} {l : List α} {k : Nat} (h : k < l.length) : l.drop k = l[k] :: l.drop (k + 1) := List.drop_eq_getElem_cons h
end Go.Proofs.YtnaknldbmapolaaGreatDoor
