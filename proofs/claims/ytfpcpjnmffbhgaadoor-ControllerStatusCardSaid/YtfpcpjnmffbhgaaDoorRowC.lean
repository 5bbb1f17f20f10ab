/-
  How slices and structs inside an argument are opened, and how a controller's state is read off an argument.
-/
import Derived.Test.YtfpcpjnmffbhgaaDoorRowB
import Derived.Test.YtfpcpjnmffbhgaaDoorCtl
namespace Go.Proofs.YtfpcpjnmffbhgaaDoor
open Go.ChangeShapes Go.WideShapes Go.ChangeAt Go.RowKit Go.Joins Go.Deep
set_option linter.unusedSimpArgs false
set_option linter.unusedVariables false
set_option maxRecDepth 100000
theorem pick_list {α : Type} {n : Nat} {p : Nat → α → Prop} (h : ∀ i, i < n → ∃ e, p i e) : ∃ l : List α, l.length = n ∧ ∀ i (hi : i < l.length), p i l[i] := by
  induction n with
  | zero => exact ⟨[], rfl, fun i hi => by simp at hi⟩
  | succ n ih =>
    obtain ⟨l, h1, h2⟩ := ih (fun i hi => h i (by omega))
    obtain ⟨e, he⟩ := h n (by omega)
    refine ⟨l ++ [e], by simp [h1], fun i hi => ?_⟩
    by_cases hc : i < l.length
    · rw [List.getElem_append_left hc]; exact h2 i hc
    · have : i = l.length := by simp at hi; omega
      subst this
      rw [List.getElem_append_right (Nat.le_refl _)]
      simpa [h1] using he
section
variable {H : Type} {enc : TypeId × Value → H} {P : Program} {w : World} {base : Nat} {spare : Nat → Bool} {held : Bool}
/-- No part of the datum is wider than what a machine can hold. -/
def Sz (P : Program) (t : TypeId) (d : DataW H) : Prop := ∀ n ∈ d.weights P t, n ≤ reachBytes
theorem sz_arg {ts : List TypeId} {ds : List (DataW H)} (h : (DataW.weightsEach P ts ds).all (· ≤ reachBytes) = true) {j : Nat} {t : TypeId} {d : DataW H} (ht : ts[j]? = some t) (hd : ds[j]? = some d) : Sz P t d := fun n hn => by
  have := List.all_eq_true.1 h _ (DataW.weights_mem_each ht hd n hn)
  simpa using this
theorem weightsAll_mem {e : TypeId} : ∀ {l : List (DataW H)} {d : DataW H}, d ∈ l → ∀ n ∈ d.weights P e, n ∈ DataW.weightsAll P e l
  | a :: l, d, hd, n, hn => by
    simp only [DataW.weightsAll, List.mem_append]
    rcases List.mem_cons.1 hd with rfl | hd
    · exact Or.inl hn
    · exact Or.inr (weightsAll_mem hd n hn)
theorem trod_fields {t : TypeId} {fs : Array Field} {fuel : Nat} {cs : List Value} {x : DataW H × List MemPlace} (ht : P.underlying t = some (.struct fs)) (hs : Sz P t x.1) (h : DataW.trod enc P w base spare held fuel t cs = some x) :
    ∃ n, cs.length = P.cellsOf t ∧ ∀ (j : Nat) (f : Field), fs[j]? = some f → ∃ y, DataW.trod enc P w base spare held n f.type ((cs.drop f.offset).take (P.cellsOf f.type)) = some y ∧ Sz P f.type y.1 := by
  obtain ⟨ys, n', _, hy, hlen, hyl, hfd⟩ := DataW.trod_struct ht h
  refine ⟨n', hlen, fun j f hj => ?_⟩
  have hjl : j < fs.size := (Array.getElem?_eq_some_iff.1 hj).1
  have hys : ys[j]? = some (ys[j]'(by omega)) := List.getElem?_eq_getElem (by omega)
  refine ⟨_, (hfd j f hj).trans hys, fun n hn => hs n ?_⟩
  rw [hy]
  simp only [DataW.weights, ht]
  exact DataW.weights_mem_each (j := j) (t := f.type) (by simp [hj]) (by simp [hys]) n hn
/-- A slice: nil or not, the cells of each element, each element with its own reading. -/
theorem trod_elems {t e : TypeId} {fuel : Nat} {v : Value} {x : DataW H × List MemPlace} (ht : P.underlying t = some (.slice e)) {k : Nat} (hC : P.cellsOf e = k) (hpos : 0 < k) (hs : Sz P t x.1) (hby : decide (0 < P.bytesOf e) = true) (hf : DataW.trod enc P w base spare held fuel t [v] = some x) :
    ∃ (A : Option Addr) (n c : Nat), v = .slice A n c ∧ n ≤ reachBytes ∧ n ≤ c ∧ ∀ i, i < n → ∃ b off, A = some ⟨b, off, none⟩ ∧ b < w.heap.size ∧
      ∃ (cs : List Value) (y : DataW H × List MemPlace) (m : Nat), cs.length = k ∧ (∀ j, j < k → w.cell? ⟨b, off + (i * k + j), none⟩ = cs[j]?) ∧ DataW.trod enc P w base spare held m e cs = some y ∧ Sz P e y.1 := by
  rcases open_slice ht hf with ⟨h0, _⟩ | ⟨a, len, cap, m, k', D, Pl, hcs, _, hl, hm, hmm, hx, hi⟩
  · simp at h0
    subst h0
    exact ⟨_, _, _, rfl, by simp, Nat.le_refl _, fun i hi => absurd hi (by omega)⟩
  · simp at hcs
    subst hcs
    have hw : len * P.bytesOf e ≤ reachBytes := by
      have := hs ((len + (m - len)) * P.bytesOf e) (by rw [hx]; simp [DataW.weights, ht])
      exact Nat.le_trans (Nat.mul_le_mul_right _ (by omega)) this
    refine ⟨_, _, _, rfl, Nat.le_trans (Nat.le_mul_of_pos_right len (of_decide_eq_true hby)) hw, hl, ?_⟩
    have hnm : len ≤ m := by rw [hmm]; split <;> omega
    rw [hC] at hi
    have key : ∀ i, i < len → ∃ (cs : List Value) (y : DataW H × List MemPlace) (m : Nat), cs.length = k ∧ (∀ j, j < k → w.cell? (a.add (i * k + j)) = cs[j]?) ∧ DataW.trod enc P w base spare held m e cs = some y ∧ Sz P e y.1 := by
      intro i hin
      obtain ⟨cs', hc, ht'⟩ := hi i (by omega)
      obtain ⟨_, hcl, hat⟩ := World.cells?_some hc
      exact ⟨cs', _, _, hcl, fun j hj => by rw [← Go.Deep.add_add]; exact hat j hj, ht', fun n hn => hs n (by
        rw [hx]
        simp only [DataW.weights, ht, List.mem_cons, List.mem_append]
        exact Or.inr (Or.inl (weightsAll_mem (List.mem_map.2 ⟨i, List.mem_range.2 hin, rfl⟩) n hn)))⟩
    intro i hin
    obtain ⟨cs0, y0, m0, hl0, hc0, _, _⟩ := key 0 (by omega)
    have hu := hc0 0 hpos
    simp only [Nat.zero_mul, Nat.add_zero] at hu
    have hadd0 : a.add 0 = a := by simp [Addr.add]
    rw [hadd0, List.getElem?_eq_getElem (by omega)] at hu
    obtain ⟨b, off, rfl, hb⟩ := addr_of_cell hu
    obtain ⟨cs, y, m1, h1, h2, h3⟩ := key i hin
    exact ⟨b, off, rfl, hb, cs, y, m1, h1, fun j hj => by rw [← h2 j hj, addr_add_none], h3⟩
theorem open_ints {t e : TypeId} {fuel : Nat} {v : Value} {x : DataW H × List MemPlace} (ht : P.underlying t = some (.slice e)) (he : P.underlying e = some (.int .i64)) (hC : P.cellsOf e = 1) (hby : decide (0 < P.bytesOf e) = true) (hs : Sz P t x.1) (hf : DataW.trod enc P w base spare held fuel t [v] = some x) :
    ∃ (A : Option Addr) (l : List Int) (c : Nat), v = .slice A l.length c ∧ l.length ≤ 4611686018427387904 ∧ Cells w A (ints l) := by
  obtain ⟨A, n, c, rfl, hn, _, hi⟩ := trod_elems ht hC (by decide) hs hby hf
  have hex : ∀ i, i < n → ∃ z : Int, ∃ b off, A = some ⟨b, off, none⟩ ∧ b < w.heap.size ∧ w.cell? ⟨b, off + i, none⟩ = some (.int .i64 z) := fun i hin => by
    obtain ⟨b, off, hA, hb, cs, y, m, hl, hc, ht', hsy⟩ := hi i hin
    match cs, hl with
    | [u], _ =>
      obtain ⟨z, rfl, _⟩ := trod_i64 he ht'
      exact ⟨z, b, off, hA, hb, by simpa using hc 0 (by decide)⟩
  obtain ⟨l, hl, hE⟩ := pick_list hex
  refine ⟨A, l, c, by rw [hl], by unfold reachBytes at hn; omega, fun j hj => ?_⟩
  obtain ⟨b, off, h1, h2, h3⟩ := hE j (by simpa using hj)
  exact ⟨b, off, h1, h2, by rw [h3]; simp [ints]⟩
theorem open_sets {t e : TypeId} {fuel : Nat} {v : Value} {x : DataW H × List MemPlace} (ht : P.underlying t = some (.slice e)) (he : P.underlying e = some (.int .u8)) (hC : P.cellsOf e = 1) (hby : decide (0 < P.bytesOf e) = true) (hs : Sz P t x.1) (hf : DataW.trod enc P w base spare held fuel t [v] = some x) :
    ∃ (A : Option Addr) (l : List Int) (c : Nat), v = .slice A l.length c ∧ l.length ≤ 4611686018427387904 ∧ Cells w A (sets l) ∧ Bytes l := by
  obtain ⟨A, n, c, rfl, hn, _, hi⟩ := trod_elems ht hC (by decide) hs hby hf
  have hex : ∀ i, i < n → ∃ z : Int, (∃ b off, A = some ⟨b, off, none⟩ ∧ b < w.heap.size ∧ w.cell? ⟨b, off + i, none⟩ = some (.int .u8 z)) ∧ 0 ≤ z ∧ z < 256 := fun i hin => by
    obtain ⟨b, off, hA, hb, cs, y, m, hl, hc, ht', hsy⟩ := hi i hin
    match cs, hl with
    | [u], _ =>
      obtain ⟨z, rfl, hz⟩ := trod_u8 he ht'
      exact ⟨z, ⟨b, off, hA, hb, by simpa using hc 0 (by decide)⟩, hz.1, by omega⟩
  obtain ⟨l, hl, hE⟩ := pick_list hex
  refine ⟨A, l, c, by rw [hl], by unfold reachBytes at hn; omega, fun j hj => ?_, fun x hx => ?_⟩
  · obtain ⟨⟨b, off, h1, h2, h3⟩, _⟩ := hE j (by simpa using hj)
    exact ⟨b, off, h1, h2, by rw [h3]; simp [sets]⟩
  · obtain ⟨i, hi, rfl⟩ := List.getElem_of_mem hx
    exact (hE i hi).2
end
section
variable {H : Type} {enc : TypeId × Value → H} {w : World} {base : Nat} {spare : Nat → Bool} {held : Bool}
theorem open_steps {fuel : Nat} {v : Value} {x : DataW H × List MemPlace} (hs : Sz Tryd.prog 22 x.1) (hf : DataW.trod enc Tryd.prog w base spare held fuel 22 [v] = some x) :
    ∃ (A : Option Addr) (l : List StepD) (c : Nat), v = .slice A l.length c ∧ l.length ≤ 4611686018427387904 ∧ Steps w A l := by
  have cI : Tryd.prog.cellsOf 3 = 1 := by kernel_rfl
  obtain ⟨A, n, c, rfl, hn, _, hi⟩ := trod_elems Tryd.underlying22 (k := 3) (by kernel_rfl) (by decide) hs (by kernel_rfl) hf
  have hex : ∀ i, i < n → ∃ s : StepD, ∃ b off, A = some ⟨b, off, none⟩ ∧ b < w.heap.size ∧ w.cell? ⟨b, off + i * 3, none⟩ = some (.int .i64 s.kind) ∧ w.cell? ⟨b, off + i * 3 + 1, none⟩ = some (.int .i64 s.idx) ∧ w.cell? ⟨b, off + i * 3 + 2, none⟩ = some (.int .i64 s.ver) := fun i hin => by
    obtain ⟨b, off, hA, hb, cs, y, m, hl, hc, ht', hsy⟩ := hi i hin
    obtain ⟨n', _, hfd⟩ := trod_fields Tryd.underlying58 hsy ht'
    match cs, hl with
    | [u0, u1, u2], _ =>
      obtain ⟨y0, t0, _⟩ := hfd 0 _ rfl
      obtain ⟨y1, t1, _⟩ := hfd 1 _ rfl
      obtain ⟨y2, t2, _⟩ := hfd 2 _ rfl
      simp [cI] at t0 t1 t2
      obtain ⟨z0, rfl, _⟩ := trod_i64 Tryd.underlying3 t0
      obtain ⟨z1, rfl, _⟩ := trod_i64 Tryd.underlying3 t1
      obtain ⟨z2, rfl, _⟩ := trod_i64 Tryd.underlying3 t2
      exact ⟨⟨z0, z1, z2⟩, b, off, hA, hb, by simpa using hc 0 (by decide), by simpa [Nat.add_assoc] using hc 1 (by decide), by simpa [Nat.add_assoc] using hc 2 (by decide)⟩
  obtain ⟨l, hl, hE⟩ := pick_list hex
  exact ⟨A, l, c, by rw [hl], by unfold reachBytes at hn; omega, hE⟩
theorem open_ctl {r : Reach} {b0 : Nat} {v : Value} {d : DataW H} {p : List MemPlace} (hv : Value.okWide Tryd.prog w r b0 28 v) (hs : Sz Tryd.prog 28 d) (h : DataW.Trod enc Tryd.prog w base spare held 28 v d p) :
    ∃ c : CtlD, CtlAt w v c ∧ Bytes c.mix.held := by
  have cI : Tryd.prog.cellsOf 3 = 1 := by kernel_rfl
  have cJ : Tryd.prog.cellsOf 2 = 1 := by kernel_rfl
  have cS : Tryd.prog.cellsOf 22 = 1 := by kernel_rfl
  have cN : Tryd.prog.cellsOf 23 = 1 := by kernel_rfl
  have cB : Tryd.prog.cellsOf 24 = 1 := by kernel_rfl
  have cM : Tryd.prog.cellsOf 26 = 3 := by kernel_rfl
  have c9 : Tryd.prog.cellsOf 28 = 9 := by kernel_rfl
  unfold Value.okWide at hv
  rw [Tryd.underlying28] at hv
  obtain ⟨cs, rfl, hsz, _⟩ := hv
  obtain ⟨fuel, hf⟩ := h
  obtain ⟨n, hl, hfd⟩ := trod_fields Tryd.underlying28 (by exact hs) hf
  rw [c9] at hsz
  obtain ⟨cs⟩ := cs
  match cs, hsz with
  | [u0, u1, u2, u3, u4, u5, u6, u7, u8], _ =>
    obtain ⟨y0, t0, s0⟩ := hfd 0 _ rfl
    obtain ⟨y1, t1, s1⟩ := hfd 1 _ rfl
    obtain ⟨y2, t2, s2⟩ := hfd 2 _ rfl
    obtain ⟨y3, t3, s3⟩ := hfd 3 _ rfl
    obtain ⟨y4, t4, s4⟩ := hfd 4 _ rfl
    obtain ⟨y5, t5, s5⟩ := hfd 5 _ rfl
    obtain ⟨y6, t6, s6⟩ := hfd 6 _ rfl
    clear hfd hf hl
    simp [cI, cJ, cS, cM, Value.cells] at t0 t1 t2 t3 t4 t5 t6
    obtain ⟨pA, plan, pc, rfl, lp, hp⟩ := open_steps s0 t0
    obtain ⟨z1, rfl, _⟩ := trod_i64 Tryd.underlying3 t1
    obtain ⟨z2, rfl, _⟩ := trod_i64 Tryd.underlying3 t2
    obtain ⟨z3, rfl, _⟩ := trod_i64 Tryd.underlying3 t3
    obtain ⟨z4, rfl, _⟩ := trod_i64 Tryd.underlying3 t4
    obtain ⟨z5, rfl, _⟩ := trod_i64 Tryd.underlying2 t5
    obtain ⟨n', _, hfd⟩ := trod_fields Tryd.underlying26 s6 t6
    obtain ⟨y7, t7, s7⟩ := hfd 0 _ rfl
    obtain ⟨y8, t8, s8⟩ := hfd 1 _ rfl
    obtain ⟨y9, t9, s9⟩ := hfd 2 _ rfl
    simp [cN, cB] at t7 t8 t9
    obtain ⟨bA, bl, bc, rfl, l7, h7⟩ := open_ints Tryd.underlying23 Tryd.underlying3 cI (by kernel_rfl) s7 t7
    obtain ⟨nA, nl, nc, rfl, l8, h8⟩ := open_ints Tryd.underlying23 Tryd.underlying3 cI (by kernel_rfl) s8 t8
    obtain ⟨hA, hl', hc, rfl, l9, h9, hby⟩ := open_sets Tryd.underlying24 Tryd.underlying85 (by kernel_rfl) (by kernel_rfl) s9 t9
    exact ⟨⟨plan, z1, z2, z3, z4, z5, ⟨bl, nl, hl'⟩⟩, ⟨pA, pc, bA, bc, nA, nc, hA, hc, rfl, hp, lp, bA, bc, nA, nc, hA, hc, rfl, h7, h8, h9, l7, l8, l9⟩, hby⟩
end
end Go.Proofs.YtfpcpjnmffbhgaaDoor
