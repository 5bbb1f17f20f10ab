/- Rules of runs and contracts of functions, for the claims of one seat. -/
import Derived.Test.YtjpdemikmdfonaaGreatDoorFA1
namespace Go.Proofs.YtjpdemikmdfonaaGreatDoor
open Go.ChangeShapes Go.WideShapes Go.ChangeAt Go.RowKit Go.Joins Go.Deep
set_option linter.unusedSimpArgs false
set_option linter.unusedVariables false
set_option maxRecDepth 100000
theorem pick_list {α : Type} {n : Nat} {p : Nat → α → Prop} (h : ∀ i, i < n → ∃ e, p i e) : ∃ l : List α, l.length = n ∧ ∀ i (hi : i < l.length), p i l[i] := by
 induction n with
 | zero => exact ⟨[], rfl, fun i hi => by simp at hi⟩
 | succ n ih =>
  obtain ⟨l, h1, h2⟩ := ih (fun i hi => h i (by omega))
  obtain ⟨e, he⟩ := h n (by omega)
  refine ⟨l ++ [e], by simp [h1], fun i hi => ?_⟩
  by_cases hc : i < l.length
  ·rw [List.getElem_append_left hc]; exact h2 i hc
  ·have : i = l.length := by simp at hi; omega
   subst this
   rw [List.getElem_append_right (Nat.le_refl _)]
   simpa [h1] using he
section
variable {H : Type} {enc : TypeId × Value → H} {P : Program} {w : World} {base : Nat} {spare : Nat → Bool} {held : Bool}
def Sz (P : Program) (t : TypeId) (d : DataW H) : Prop := ∀ n ∈ d.weights P t, n ≤ reachBytes
theorem sz_arg {ts : List TypeId} {ds : List (DataW H)} (h : (DataW.weightsEach P ts ds).all (· ≤ reachBytes) = true) {j : Nat} {t : TypeId} {d : DataW H} (ht : ts[j]? = some t) (hd : ds[j]? = some d) : Sz P t d := fun n hn => by
 have := List.all_eq_true.1 h _ (DataW.weights_mem_each ht hd n hn)
 simpa using this
theorem weightsAll_mem {e : TypeId} : ∀ {l : List (DataW H)} {d : DataW H}, d ∈ l → ∀ n ∈ d.weights P e, n ∈ DataW.weightsAll P e l
 | a :: l, d, hd, n, hn => by
  simp only [DataW.weightsAll, List.mem_append]
  rcases List.mem_cons.1 hd with rfl | hd
  ·exact Or.inl hn
  ·exact Or.inr (weightsAll_mem hd n hn)
theorem trod_fieldsF {t : TypeId} {fs : Array Field} {fuel : Nat} {cs : List Value} {x : DataW H × List MemPlace} (ht : P.underlying t = some (.struct fs)) (hs : Sz P t x.1) (h : DataW.trod enc P w base spare held fuel t cs = some x) :
    ∃ n, cs.length = P.cellsOf t ∧ ∀ (j : Nat) (f : Field), fs[j]? = some f → ∃ y, DataW.trod enc P w base spare held n f.type ((cs.drop f.offset).take (P.cellsOf f.type)) = some y ∧ Sz P f.type y.1 ∧ SizeOf.sizeOf y.1 < SizeOf.sizeOf x.1 := by
 obtain ⟨ys, n', _, hy, hlen, hyl, hfd⟩ := DataW.trod_struct ht h
 refine ⟨n', hlen, fun j f hj => ?_⟩
 have hjl : j < fs.size := (Array.getElem?_eq_some_iff.1 hj).1
 have hys : ys[j]? = some (ys[j]'(by omega)) := List.getElem?_eq_getElem (by omega)
 have hz : SizeOf.sizeOf (ys[j]'(by omega)).1 < SizeOf.sizeOf x.1 := by
  have hm : (ys[j]'(by omega)).1 ∈ ys.map (·.1) := List.mem_map.2 ⟨_, List.getElem_mem _, rfl⟩
  have := List.sizeOf_lt_of_mem hm
  rw [hy]
  simp only [DataW.agg.sizeOf_spec]
  omega
 refine ⟨_, (hfd j f hj).trans hys, fun n hn => hs n ?_, hz⟩
 rw [hy]
 simp only [DataW.weights, ht]
 exact DataW.weights_mem_each (j := j) (t := f.type) (by simp [hj]) (by simp [hys]) n hn
theorem trod_fields {t : TypeId} {fs : Array Field} {fuel : Nat} {cs : List Value} {x : DataW H × List MemPlace} (ht : P.underlying t = some (.struct fs)) (hs : Sz P t x.1) (h : DataW.trod enc P w base spare held fuel t cs = some x) :
    ∃ n, cs.length = P.cellsOf t ∧ ∀ (j : Nat) (f : Field), fs[j]? = some f → ∃ y, DataW.trod enc P w base spare held n f.type ((cs.drop f.offset).take (P.cellsOf f.type)) = some y ∧ Sz P f.type y.1 :=
 let ⟨n, h1, h2⟩ := trod_fieldsF ht hs h
 ⟨n, h1, fun j f hj => let ⟨y, a, b, _⟩ := h2 j f hj; ⟨y, a, b⟩⟩
theorem trod_elemsF {t e : TypeId} {fuel : Nat} {v : Value} {x : DataW H × List MemPlace} (ht : P.underlying t = some (.slice e)) {k : Nat} (hC : P.cellsOf e = k) (hpos : 0 < k) (hs : Sz P t x.1) (hby : decide (0 < P.bytesOf e) = true) (hf : DataW.trod enc P w base spare held fuel t [v] = some x) :
    ∃ (A : Option Addr) (n c : Nat), v = .slice A n c ∧ n * P.bytesOf e ≤ reachBytes ∧ n ≤ c ∧ ∀ i, i < n → ∃ b off, A = some ⟨b, off, none⟩ ∧ b < w.heap.size ∧
     ∃ (cs : List Value) (y : DataW H × List MemPlace) (m : Nat), cs.length = k ∧ (∀ j, j < k → w.cell? ⟨b, off + (i * k + j), none⟩ = cs[j]?) ∧ DataW.trod enc P w base spare held m e cs = some y ∧ Sz P e y.1 ∧ SizeOf.sizeOf y.1 < SizeOf.sizeOf x.1 := by
 rcases open_slice ht hf with ⟨h0, _⟩ | ⟨a, len, cap, m, k', D, Pl, hcs, _, hl, hm, hmm, hx, hi⟩
 ·simp at h0
  subst h0
  exact ⟨_, _, _, rfl, by simp, Nat.le_refl _, fun i hi => absurd hi (by omega)⟩
 ·simp at hcs
  subst hcs
  have hw : len * P.bytesOf e ≤ reachBytes := by
   have := hs ((len + (m - len)) * P.bytesOf e) (by rw [hx]; simp [DataW.weights, ht])
   exact Nat.le_trans (Nat.mul_le_mul_right _ (by omega)) this
  refine ⟨_, _, _, rfl, hw, hl, ?_⟩
  have hnm : len ≤ m := by rw [hmm]; split <;> omega
  rw [hC] at hi
  have key : ∀ i, i < len → ∃ (cs : List Value) (y : DataW H × List MemPlace) (m : Nat), cs.length = k ∧ (∀ j, j < k → w.cell? (a.add (i * k + j)) = cs[j]?) ∧ DataW.trod enc P w base spare held m e cs = some y ∧ Sz P e y.1 ∧ SizeOf.sizeOf y.1 < SizeOf.sizeOf x.1 := by
   intro i hin
   obtain ⟨cs', hc, ht'⟩ := hi i (by omega)
   obtain ⟨_, hcl, hat⟩ := World.cells?_some hc
   exact ⟨cs', _, _, hcl, fun j hj => by rw [← Go.Deep.add_add]; exact hat j hj, ht', fun n hn => hs n (by
    rw [hx]
    simp only [DataW.weights, ht, List.mem_cons, List.mem_append]
    exact Or.inr (Or.inl (weightsAll_mem (List.mem_map.2 ⟨i, List.mem_range.2 hin, rfl⟩) n hn))), by
    have hm : D i ∈ (List.range len).map D := List.mem_map.2 ⟨i, List.mem_range.2 hin, rfl⟩
    have := List.sizeOf_lt_of_mem hm
    rw [hx]
    simp only [DataW.slice.sizeOf_spec]
    omega⟩
  intro i hin
  obtain ⟨cs0, y0, m0, hl0, hc0, _, _⟩ := key 0 (by omega)
  have hu := hc0 0 hpos
  simp only [Nat.zero_mul, Nat.add_zero] at hu
  have hadd0 : a.add 0 = a := by simp [Addr.add]
  rw [hadd0, List.getElem?_eq_getElem (by omega)] at hu
  obtain ⟨b, off, rfl, hb⟩ := addr_of_cell hu
  obtain ⟨cs, y, m1, h1, h2, h3⟩ := key i hin
  exact ⟨b, off, rfl, hb, cs, y, m1, h1, fun j hj => by rw [← h2 j hj, addr_add_none], h3⟩
end
end Go.Proofs.YtjpdemikmdfonaaGreatDoor

