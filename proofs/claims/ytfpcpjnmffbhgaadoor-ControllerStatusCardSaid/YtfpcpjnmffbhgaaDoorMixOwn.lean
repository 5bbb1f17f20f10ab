/-
  A mix of one's own: its entries are read and written.
-/
import Derived.Test.YtfpcpjnmffbhgaaDoorStep2
namespace Go.Proofs.YtfpcpjnmffbhgaaDoor
open Go.RowKit
set_option linter.unusedSimpArgs false
set_option linter.unusedVariables false
section
variable {lo s1 s2 : Nat} {w w' : World} {bA : Option Addr} {bc : Nat} {nA : Option Addr} {nc : Nat} {hA : Option Addr} {hc : Nat} {m : MixD}
theorem OwnMix.ext (h : OwnMix lo s1 s2 w bA bc nA nc hA hc m) (hb : Below w.heap.size w w') : OwnMix lo s1 s2 w' bA bc nA nc hA hc m :=
  ⟨h.1.ext hb, h.2.1.ext hb, h.2.2.1.ext hb, h.2.2.2.1, h.2.2.2.2.1, Nat.le_trans h.2.2.2.2.2.1 hb.size, h.2.2.2.2.2.2⟩
theorem OwnMix.alloc (h : OwnMix lo s1 s2 w bA bc nA nc hA hc m) (o : Obj) : OwnMix lo s1 s2 (w.alloc o) bA bc nA nc hA hc m := h.ext (ext_alloc (ext_refl _) o)
theorem OwnMix.drew (h : OwnMix lo s1 s2 w bA bc nA nc hA hc m) : OwnMix lo s1 s2 w.drew bA bc nA nc hA hc m := h
theorem Own.other {lo : Nat} {w : World} {t : TypeId} {sz : Nat} {A : Option Addr} {n c : Nat} {xs : List Value} (h : Own lo w t sz A n c xs) {b i : Nat} (hn : 0 < n) (hne : ∀ a, A = some a → a.block ≠ b) (u : Value) : Own lo (w.setCell ⟨b, i, none⟩ u) t sz A n c xs := by
  obtain ⟨g, sp, h1, h2, h3, h4⟩ := h.blk hn
  exact ⟨h.1, h.2.1, .inr ⟨g, sp, h1, h2, h3, h4.far (hne _ h1) u⟩⟩
theorem Own.put {lo : Nat} {w : World} {t : TypeId} {g : Nat} {n c : Nat} {xs : List Value} (h : Own lo w t 1 (some ⟨g, 0, none⟩) n c xs) {i : Nat} (hi : i < n) (u : Value) : Own lo (w.setCell ⟨g, i, none⟩ u) t 1 (some ⟨g, 0, none⟩) n c (xs.set i u) := by
  obtain ⟨g', sp, h1, h2, h3, h4⟩ := h.blk (by omega)
  cases h1
  have hl := h.2.1
  refine ⟨h.1, by simpa using hl, .inr ⟨_, sp, rfl, h2, h3, ?_⟩⟩
  have := h4.put i u
  rw [show (xs ++ sp).toArray.setIfInBounds i u = (xs.set i u ++ sp).toArray from by
    apply Array.ext'
    simp [List.set_append_left _ _ (show i < xs.length by omega)]] at this
  exact this
theorem ints_set (xs : List Int) (i : Nat) (v : Int) : (ints xs).set i (.int .i64 v) = ints (xs.set i v) := by simp [ints, List.map_set]
theorem sets_set (xs : List Int) (i : Nat) (v : Int) : (sets xs).set i (.int .u8 v) = sets (xs.set i v) := by simp [sets, List.map_set]
theorem Own.spot {lo : Nat} {w : World} {t : TypeId} {A : Option Addr} {n c : Nat} {xs : List Value} (h : Own lo w t 1 A n c xs) {i : Nat} (hi : i < n) :
    ∃ g, A = some ⟨g, 0, none⟩ ∧ lo ≤ g ∧ g < w.heap.size ∧ w.cell? ⟨g, i, none⟩ = xs[i]? ∧ ∀ j, w.frozen? ⟨g, j, none⟩ = false := by
  obtain ⟨g, sp, h1, h2, h3, h4⟩ := h.blk (by omega)
  have hl := h.2.1
  refine ⟨g, h1, h2, h4.lt, ?_, fun j => h4.frozen j⟩
  rw [h4.cell]
  simp [List.getElem?_append_left (show i < xs.length by omega)]
/-- Entry i of Next is read, and may be written. -/
theorem OwnMix.nextAt (h : OwnMix lo s1 s2 w bA bc nA nc hA hc m) {i : Nat} (hi : i < m.next.length) (hb : 0 < m.base.length) :
    ∃ g, nA = some ⟨g, 0, none⟩ ∧ s1 ≤ g ∧ g < s2 ∧ w.cell? ⟨g, i, none⟩ = some (.int .i64 m.next[i]) ∧ (∀ j, w.frozen? ⟨g, j, none⟩ = false) ∧ ∀ v, OwnMix lo s1 s2 (w.setCell ⟨g, i, none⟩ (.int .i64 v)) bA bc nA nc hA hc { m with next := m.next.set i v } := by
  obtain ⟨h1, h2, h3, h4, h5, h6, h7, h8⟩ := h
  obtain ⟨g, rfl, k1, k2, k3, k4⟩ := h2.spot hi
  have hg : g < s2 := h8 (by omega) _ rfl
  refine ⟨g, rfl, k1, hg, by rw [k3]; simp [ints, List.getElem?_eq_getElem hi], k4, fun v => ⟨h1.other hb (fun a e => by have := h7 hb a e; omega) _, ?_, h3.far hg _, h4, h5, by rw [size_set]; exact h6, h7, fun h0 a e => h8 (by omega) a e⟩⟩
  have := h2.put hi (.int .i64 v)
  rw [ints_set] at this
  simpa using this
theorem OwnMix.baseAt (h : OwnMix lo s1 s2 w bA bc nA nc hA hc m) {i : Nat} (hi : i < m.base.length) :
    ∃ g, bA = some ⟨g, 0, none⟩ ∧ lo ≤ g ∧ g < s1 ∧ w.cell? ⟨g, i, none⟩ = some (.int .i64 m.base[i]) ∧ (∀ j, w.frozen? ⟨g, j, none⟩ = false) ∧ ∀ v, OwnMix lo s1 s2 (w.setCell ⟨g, i, none⟩ (.int .i64 v)) bA bc nA nc hA hc { m with base := m.base.set i v } := by
  obtain ⟨h1, h2, h3, h4, h5, h6, h7, h8⟩ := h
  obtain ⟨g, rfl, k1, k2, k3, k4⟩ := h1.spot hi
  have hg : g < s1 := h7 (by omega) _ rfl
  refine ⟨g, rfl, k1, hg, by rw [k3]; simp [ints, List.getElem?_eq_getElem hi], k4, fun v => ⟨?_, h2.far hg _, h3.far (by omega) _, h4, h5, by rw [size_set]; exact h6, fun h0 a e => h7 (by omega) a e, h8⟩⟩
  have := h1.put hi (.int .i64 v)
  rw [ints_set] at this
  simpa using this
theorem OwnMix.heldAt (h : OwnMix lo s1 s2 w bA bc nA nc hA hc m) {i : Nat} (hi : i < m.held.length) (hb : 0 < m.base.length) (hn : 0 < m.next.length) :
    ∃ g, hA = some ⟨g, 0, none⟩ ∧ s2 ≤ g ∧ g < w.heap.size ∧ w.cell? ⟨g, i, none⟩ = some (.int .u8 m.held[i]) ∧ (∀ j, w.frozen? ⟨g, j, none⟩ = false) ∧ ∀ v, OwnMix lo s1 s2 (w.setCell ⟨g, i, none⟩ (.int .u8 v)) bA bc nA nc hA hc { m with held := m.held.set i v } := by
  obtain ⟨h1, h2, h3, h4, h5, h6, h7, h8⟩ := h
  obtain ⟨g, rfl, k1, k2, k3, k4⟩ := h3.spot hi
  refine ⟨g, rfl, k1, k2, by rw [k3]; simp [sets, List.getElem?_eq_getElem hi], k4, fun v => ⟨h1.other hb (fun a e => by have := h7 hb a e; omega) _, h2.other hn (fun a e => by have := h8 hn a e; omega) _, ?_, h4, h5, by rw [size_set]; exact h6, h7, h8⟩⟩
  have := h3.put hi (.int .u8 v)
  rw [sets_set] at this
  simpa using this
end
end Go.Proofs.YtfpcpjnmffbhgaaDoor
