/-
  The walk of the law RecoveryProgress.
-/
import Derived.Test.YtheklfcealopdaaAwake
import Derived.Test.YtheklfcealopdaaEnts
namespace Go.Proofs.Ytheklfcealopdaa
open Go.RowKit
set_option linter.unusedSimpArgs false
set_option linter.unusedVariables false
set_option maxHeartbeats 2000000
set_option maxRecDepth 100000
def entRow (e : EntD) : List Value := [.int .i64 e.kind, .int .i64 e.token, .int .i64 e.idx, .string e.data]
def entCells (l : List EntD) : List Value := (l.map entRow).flatten
theorem entRow_len (l : List EntD) : ∀ (i : Nat) (row : List Value), (l.map entRow)[i]? = some row → row.length = 4 := fun i row h => by
  rw [List.getElem?_map] at h
  obtain ⟨e, _, rfl⟩ := Option.map_eq_some_iff.1 h
  rfl
theorem entCells_len (l : List EntD) : (entCells l).length = l.length * 4 := by
  unfold entCells
  rw [flat_len (entRow_len l), List.length_map]
theorem entCells_at (l : List EntD) {i j : Nat} (hi : i < l.length) (hj : j < 4) : (entCells l)[i * 4 + j]? = (entRow l[i])[j]? := mk_flat (entRow_len l) (by rw [List.getElem?_map, List.getElem?_eq_getElem hi]; rfl) hj
theorem ents_of_cells {w : World} {A : Option Addr} {l : List EntD} (h : Cells w A (entCells l)) : Ents w A l := fun i hi => by
  have hl := entCells_len l
  have get : ∀ j, j < 4 → ∃ b off, A = some ⟨b, off, none⟩ ∧ b < w.heap.size ∧ ∀ u, (entRow l[i])[j]? = some u → w.cell? ⟨b, off + (i * 4 + j), none⟩ = some u := fun j hj => by
    obtain ⟨b, off, h1, h2, h3⟩ := h (i * 4 + j) (by omega)
    refine ⟨b, off, h1, h2, fun u hu => ?_⟩
    rw [h3]
    have := entCells_at l hi hj
    rw [hu, List.getElem?_eq_getElem (by omega)] at this
    exact this
  obtain ⟨b, off, h1, h2, h3⟩ := get 0 (by omega)
  obtain ⟨b1, off1, k1, _, k3⟩ := get 1 (by omega)
  obtain ⟨b2, off2, m1, _, m3⟩ := get 2 (by omega)
  obtain ⟨b3, off3, n1, _, n3⟩ := get 3 (by omega)
  rw [h1] at k1 m1 n1
  cases k1; cases m1; cases n1
  exact ⟨b, off, h1, h2, h3 _ rfl, k3 _ rfl, m3 _ rfl, n3 _ rfl⟩
theorem cells_of_ents {w : World} {A : Option Addr} {l : List EntD} (h : Ents w A l) : Cells w A (entCells l) := fun j hj => by
  have hl := entCells_len l
  have hi : j / 4 < l.length := by omega
  obtain ⟨b, off, h1, h2, c0, c1, c2, c3⟩ := h (j / 4) hi
  refine ⟨b, off, h1, h2, ?_⟩
  have e1 := entCells_at l hi (j := j % 4) (by omega)
  rw [show j / 4 * 4 + j % 4 = j by omega, List.getElem?_eq_getElem hj] at e1
  have e2 : off + j = off + j / 4 * 4 + j % 4 := by omega
  rw [e2]
  have h4 : j % 4 = 0 ∨ j % 4 = 1 ∨ j % 4 = 2 ∨ j % 4 = 3 := by omega
  rcases h4 with g | g | g | g <;> rw [g] at e1 ⊢ <;> simp [entRow] at e1 <;> rw [e1] <;> assumption
theorem entCells_one (l : List EntD) : ∀ u ∈ entCells l, u.oneCell' = true := fun u hu => by
  unfold entCells at hu
  obtain ⟨row, h1, h2⟩ := List.mem_flatten.1 hu
  obtain ⟨e, _, rfl⟩ := List.mem_map.1 h1
  simp [entRow] at h2
  rcases h2 with rfl | rfl | rfl | rfl <;> rfl
theorem recProgress_long (A : Option Addr) (n c : Nat) (w : World) (hn : 40 < n) (hm : n ≤ 9223372036854775807) : Calls Try.prog 3 #[.slice A n c] w fun e w' => e = .returned (.bool true) ∧ Below w.heap.size w w' := by
  go_enter Try.func3, Try.ntmps3
  go_wp2_with fail
  refine (awake_true _).mono ?_
  rintro e w1 ⟨rfl, hb1⟩
  go_wp2_with fail
  refine (awake_true _).mono ?_
  rintro e w2 ⟨rfl, hb2⟩
  go_wp2_with fail
  go_ret
  exact ⟨rfl, ext_step hb1 hb2⟩
theorem recProgress_any (A : Option Addr) (c : Nat) (l : List EntD) (w : World) (hA : Ents w A l) (hn : l.length ≤ 40) : Calls Try.prog 3 #[.slice A l.length c] w fun e w' => e = .returned (.bool true) ∧ Below w.heap.size w w' := by
  have HA := hid hA
  clear hA
  go_enter Try.func3, Try.ntmps3
  go_wp2_with fail
  refine (awake_true _).mono ?_
  rintro e w1 ⟨rfl, hb1⟩
  go_wp2_with fail
  refine (cloneEntry A l.length c (entCells l) w1 (cells_of_ents (HA.out.ext hb1)) (entCells_len l) (entCells_one l) (by omega)).mono ?_
  rintro e w2 ⟨A2, c2, rfl, hO, hz, hb2⟩
  have HO := hid hO
  clear hO hz
  go_wp2_with fail
  refine (progress_any A2 c2 l w2 (ents_of_cells HO.out.cells) (by omega)).mono ?_
  rintro e w3 ⟨rfl, hb3⟩
  go_wp2_with fail
  refine (rprogress_any A c l w3 (((HA.out.ext hb1).ext hb2).ext hb3) (by omega)).mono ?_
  rintro e w4 ⟨rfl, hb4⟩
  go_wp2_with fail
  go_ret
  exact ⟨rfl, ext_step (ext_step (ext_step hb1 hb2) hb3) hb4⟩
end Go.Proofs.Ytheklfcealopdaa
