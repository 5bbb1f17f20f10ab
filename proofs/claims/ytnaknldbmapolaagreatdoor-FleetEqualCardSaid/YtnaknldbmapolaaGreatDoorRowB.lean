/-
  How a slice of structs is opened: the cells of its elements.
-/
import Derived.Test.YtnaknldbmapolaaGreatDoorRow
import Derived.Deep.Slices
import Derived.Deep.Fields
namespace Go.Proofs.YtnaknldbmapolaaGreatDoor
open Go.ChangeShapes Go.WideShapes Go.ChangeAt Go.RowKit Go.Joins Go.Deep
set_option linter.unusedSimpArgs false
set_option linter.unusedVariables false
theorem addr_add_none (b off n : Nat) : Addr.add ⟨b, off, none⟩ n = ⟨b, off + n, none⟩ := by
  unfold Addr.add; split
  · subst_vars; rfl
  · rfl
theorem addr_of_cell {w : World} {ad : Addr} {u : Value} (h : w.cell? ad = some u) : ∃ b off, ad = ⟨b, off, none⟩ ∧ b < w.heap.size := by
  obtain ⟨b, off, spot⟩ := ad
  unfold World.cell? at h
  dsimp only at h
  have hb : b < w.heap.size := by
    rcases Nat.lt_or_ge b w.heap.size with hl | hg
    · exact hl
    · rw [Array.getElem?_eq_none hg] at h; cases h
  cases spot with
  | none => exact ⟨b, off, rfl, hb⟩
  | some x => split at h <;> simp at h
section
variable {H : Type} {enc : TypeId × Value → H} {P : Program} {w : World} {base : Nat} {spare : Nat → Bool} {held : Bool}
/-- A slice of structs of one-cell fields: nil or not, the cells of each element, each with its own reading. -/
theorem open_rows {r : Reach} {b0 : Nat} {t e : TypeId} {fs : Array Field} {v : Value} {d : DataW H} {p : List MemPlace} (ht : P.underlying t = some (.slice e)) (he : P.underlying e = some (.struct fs))
    (hone : oneCellFields P fs = true) (hC : P.cellsOf e = fs.size) (hpos : 0 < fs.size) (hv : Value.okWide P w r b0 t v) (h : DataW.Trod enc P w base spare held t v d p) :
    ∃ (A : Option Addr) (n c : Nat), v = .slice A n c ∧ n ≤ maxLen ∧ n ≤ c ∧ ∀ i, i < n → ∃ b off, A = some ⟨b, off, none⟩ ∧ b < w.heap.size ∧
      ∀ (j : Nat) (f : Field), fs[j]? = some f → ∃ (u : Value) (y : DataW H × List MemPlace) (m : Nat), w.cell? ⟨b, off + (i * fs.size + j), none⟩ = some u ∧ DataW.trod enc P w base spare held m f.type [u] = some y := by
  obtain ⟨A, n, c, rfl⟩ := okWide_slice ht hv
  obtain ⟨fuel, hf⟩ := h
  rcases open_slice ht hf with ⟨h0, _⟩ | ⟨a, len, cap, m, k, D, Pl, hcs, _, hl, hm, hmm, _, hi⟩
  · simp [Value.cells] at h0
    obtain ⟨rfl, rfl, rfl⟩ := h0
    exact ⟨_, _, _, rfl, by simp [maxLen], Nat.le_refl _, fun i hi => absurd hi (by omega)⟩
  · simp [Value.cells] at hcs
    obtain ⟨rfl, rfl, rfl⟩ := hcs
    refine ⟨_, _, _, rfl, by omega, hl, ?_⟩
    have hnm : n ≤ m := by rw [hmm]; split <;> omega
    have key : ∀ i, i < n → ∀ (j : Nat) (f : Field), fs[j]? = some f → ∃ (u : Value) (y : DataW H × List MemPlace) (m : Nat), w.cell? (a.add (i * fs.size + j)) = some u ∧ DataW.trod enc P w base spare held m f.type [u] = some y := by
      intro i hin j f hj
      obtain ⟨cs', hc, ht'⟩ := hi i (by omega)
      rw [hC] at hc
      obtain ⟨ys, n', _, hy, hlen, hyl, hfd⟩ := DataW.trod_struct he ht'
      obtain ⟨_, hcl, hat⟩ := World.cells?_some hc
      obtain ⟨ho, hk⟩ := hone_of hone j f hj
      have hjl : j < fs.size := (Array.getElem?_eq_some_iff.1 hj).1
      have hcell := hat j hjl
      have hv' : cs'[j]? = some (cs'[j]'(by omega)) := List.getElem?_eq_getElem (by omega)
      have h1 := hfd j f hj
      rw [ho, hk] at h1
      have hone' : (cs'.drop j).take 1 = [cs'[j]'(by omega)] := by
        rw [List.drop_eq_getElem_cons (by omega)]
        rfl
      rw [hone'] at h1
      have hys : ys[j]? = some (ys[j]'(by omega)) := List.getElem?_eq_getElem (by omega)
      exact ⟨_, _, _, by rw [← Go.Deep.add_add, hcell, hv'], h1.trans hys⟩
    intro i hin
    have hf0 : fs[0]? = some (fs[0]'hpos) := Array.getElem?_eq_getElem hpos
    obtain ⟨u, _, _, hu, _⟩ := key 0 (by omega) 0 _ hf0
    simp only [Nat.zero_mul, Nat.add_zero] at hu
    have hadd0 : a.add 0 = a := by simp [Addr.add]
    rw [hadd0] at hu
    obtain ⟨b, off, rfl, hb⟩ := addr_of_cell hu
    refine ⟨b, off, rfl, hb, fun j f hj => ?_⟩
    obtain ⟨u, y, m, h1, h2⟩ := key i hin j f hj
    rw [addr_add_none] at h1
    exact ⟨u, y, m, h1, h2⟩
theorem trod_u8 {n : Nat} {t : TypeId} {v : Value} {y : DataW H × List MemPlace} (ht : P.underlying t = some (.int .u8)) (h : DataW.trod enc P w base spare held n t [v] = some y) : ∃ z, v = .int .u8 z ∧ (0 ≤ z ∧ z ≤ 255) := by
  obtain ⟨z, h1, _, h3⟩ := DataW.trod_int ht h
  simp at h1
  refine ⟨z, h1, ?_⟩
  simp [Lit.wf, IntKind.min, IntKind.max, IntKind.signed, IntKind.bits] at h3
  omega
theorem trod_b {n : Nat} {t : TypeId} {v : Value} {y : DataW H × List MemPlace} (ht : P.underlying t = some .bool) (h : DataW.trod enc P w base spare held n t [v] = some y) : ∃ z, v = .bool z := by
  obtain ⟨z, h1, _⟩ := DataW.trod_bool ht h
  simp at h1
  exact ⟨z, h1⟩
end
end Go.Proofs.YtnaknldbmapolaaGreatDoor
