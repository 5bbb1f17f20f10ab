/-
  Slices in memory of a call's own: what append leaves, said by the whole block.
-/
import Derived.Test.YtnaknldbmapolaaGreatDoorGrow
import Derived.Deep.AppendSrc
import Derived.Deep.RegionHeld3
namespace Go.Proofs.YtnaknldbmapolaaGreatDoor
open Go.RowKit
set_option linter.unusedSimpArgs false
set_option linter.unusedVariables false
/-- n elements (cells xs, element type t of sz cells) stand in a block of their own from lo on, with room for c; an empty slice without room may have any address. -/
def Own (lo : Nat) (w : World) (t : TypeId) (sz : Nat) (A : Option Addr) (n c : Nat) (xs : List Value) : Prop :=
  n ≤ c ∧ xs.length = n * sz ∧ (n = 0 ∧ c = 0 ∨ ∃ g sp, A = some ⟨g, 0, none⟩ ∧ lo ≤ g ∧ sp.length = (c - n) * sz ∧ Blk w g t (xs ++ sp).toArray)
section
variable {lo : Nat} {w w' : World} {t : TypeId} {sz : Nat} {A : Option Addr} {n c : Nat} {xs : List Value}
theorem Own.ext (h : Own lo w t sz A n c xs) (hb : Below w.heap.size w w') : Own lo w' t sz A n c xs :=
  ⟨h.1, h.2.1, h.2.2.imp id fun ⟨g, sp, h1, h2, h3, h4⟩ => ⟨g, sp, h1, h2, h3, h4.ext hb⟩⟩
theorem Own.alloc (h : Own lo w t sz A n c xs) (o : Obj) : Own lo (w.alloc o) t sz A n c xs := h.ext (ext_alloc (ext_refl _) o)
theorem Own.drew (h : Own lo w t sz A n c xs) : Own lo w.drew t sz A n c xs := h
theorem Own.mono {lo' : Nat} (h : Own lo w t sz A n c xs) (hl : lo' ≤ lo) : Own lo' w t sz A n c xs :=
  ⟨h.1, h.2.1, h.2.2.imp id fun ⟨g, sp, h1, h2, h3, h4⟩ => ⟨g, sp, h1, Nat.le_trans hl h2, h3, h4⟩⟩
theorem Own.cells (h : Own lo w t sz A n c xs) : Cells w A xs := by
  intro j hj
  rcases h.2.2 with ⟨h0, _⟩ | ⟨g, sp, h1, h2, h3, h4⟩
  · have := h.2.1
    subst h0
    simp at this
    subst this
    simp at hj
  · refine ⟨g, 0, h1, h4.lt, ?_⟩
    rw [h4.cell]
    simp [List.getElem?_append_left hj, List.getElem?_eq_getElem hj]
theorem Own.far {b i : Nat} (h : Own lo w t sz A n c xs) (hp : b < lo) (u : Value) : Own lo (w.setCell ⟨b, i, none⟩ u) t sz A n c xs :=
  ⟨h.1, h.2.1, h.2.2.imp id fun ⟨g, sp, h1, h2, h3, h4⟩ => ⟨g, sp, h1, h2, h3, h4.far (by omega) u⟩⟩
theorem Own.nil (lo : Nat) (w : World) (t : TypeId) (sz : Nat) (A : Option Addr) : Own lo w t sz A 0 0 [] := ⟨Nat.le_refl _, by simp, .inl ⟨rfl, rfl⟩⟩
/-- A nonempty one stands in a block. -/
theorem Own.blk (h : Own lo w t sz A n c xs) (hn : 0 < n) : ∃ g sp, A = some ⟨g, 0, none⟩ ∧ lo ≤ g ∧ sp.length = (c - n) * sz ∧ Blk w g t (xs ++ sp).toArray := h.2.2.resolve_left (by omega)
end
theorem Cells.none {w : World} {A : Option Addr} {xs : List Value} (h : Cells w A xs) : A = none → xs.length = 0 := by
  intro e
  rcases Nat.eq_zero_or_pos xs.length with h0 | h0
  · exact h0
  · obtain ⟨b, off, h1, _⟩ := h 0 h0
    rw [e] at h1
    cases h1
/-- A slice that reads as cells is a source for append. -/
theorem src_cells {P : Program} {w : World} {size : Nat} {tx e' : TypeId} {A : Option Addr} {n c : Nat} {xs : List Value} (hk : P.underlying tx = some (.slice e')) (h : Cells w A xs) (hl : xs.length = n * size) (h0 : A = none → n = 0)
    (h1 : ∀ u ∈ xs, u.oneCell' = true) : Src P size tx (.slice A n c) n xs w := by
  cases A with
  | none =>
    have hn := h0 rfl
    subst hn
    obtain rfl : xs = [] := List.length_eq_zero_iff.1 (by simpa using hl)
    exact Src.ofNil w hk c
  | some a =>
    refine Src.ofSlice w hk a n c xs hl (fun j u hu => ?_) h1
    obtain ⟨hj, rfl⟩ := List.getElem?_eq_some_iff.1 hu
    obtain ⟨b, off, e, _, h3⟩ := h j hj
    cases e
    rw [Addr.add_lit]
    exact h3
/-- append onto a slice without room: a new block. -/
theorem run_grow {P : Program} {w : World} (lo : Nat) (hlo : lo ≤ w.heap.size) (t tx ty e : TypeId) (i : TypeInfo) (z : Value) (ht : P.underlying t = some (.slice e)) (hi : P.info? e = some i) (hz : i.zero = some z) (hzs : z.cells.size = i.size) (A : Option Addr) (m c : Nat) (olds : List Value) (hol : olds.length = m * i.size)
    (hold : (Builtin.firstCells i.size m (.slice A m c)).run P w.drew = .ok olds.toArray w.drew) (x : Value) (n : Nat) (news : List Value) (hs : Src P i.size tx x n news w)
    (hg : c < m + n) (hb : (m + n) * i.bytes ≤ 140737488355328) (hm : m + n ≤ 4611686018427387904) :
    ∃ A' c' w', (Builtin.append_ #[t, tx] ty #[.slice A m c, x]).run P w = .ok (.slice A' (m + n) c') w' ∧ Own lo w' e i.size A' (m + n) c' (olds ++ news) ∧ Below w.heap.size w w' := by
  refine ⟨_, _, _, run_append_grow_src w t tx ty e i z ht hi hz A m c olds hold x n news hs hg (by omega) (growslice_fits hg hb), ⟨grownCap_ge _ _ _ _, by rw [List.length_append, hol, hs.newsLen, Nat.add_mul], .inr ⟨w.heap.size, (Builtin.zeroCells z.cells (grownCap w (m + n) c e - (m + n))).toList, rfl, hlo, by rw [Array.length_toList, size_zeroCells, hzs], ?_⟩⟩, ext_alloc (ext_drew (ext_refl _)) _⟩
  have e1 : (olds ++ news ++ (Builtin.zeroCells z.cells (grownCap w (m + n) c e - (m + n))).toList).toArray = (olds ++ news).toArray ++ Builtin.zeroCells z.cells (grownCap w (m + n) c e - (m + n)) := by
    apply Array.ext'; simp
  rw [e1]
  exact Blk.new w.drew e _
theorem blk_puts (g : Nat) (t : TypeId) : ∀ (vs : List Value) (w : World) (pre suf : List Value), Blk w g t (pre ++ suf).toArray → vs.length ≤ suf.length → Blk (w.setCells g pre.length vs) g t (pre ++ (vs ++ suf.drop vs.length)).toArray
  | [], w, pre, suf, h, _ => by simpa [World.setCells] using h
  | v :: vs, w, pre, [], h, hl => by simp at hl
  | v :: vs, w, pre, s :: suf, h, hl => by
    have h1 := h.put pre.length v
    have e1 : (pre ++ s :: suf).toArray.setIfInBounds pre.length v = ((pre ++ [v]) ++ suf).toArray := by
      apply Array.ext'
      simp
    rw [e1] at h1
    have h2 := blk_puts g t vs _ (pre ++ [v]) suf h1 (by simpa using hl)
    simpa [World.setCells, List.append_assoc] using h2
theorem below_puts (B g : Nat) (hg : B ≤ g) : ∀ (vs : List Value) (o : Nat) (w : World), Below B w (w.setCells g o vs)
  | [], o, w => Below.refl _ _
  | v :: vs, o, w => by
    have h1 : Below B w (w.setCell ⟨g, o, none⟩ v) := (Below.refl B w).setCell hg v
    simpa [World.setCells] using h1.trans (below_puts B g hg vs (o + 1) _)
/-- append onto a slice of one's own: with room, in place; else a new block. -/
theorem run_own {P : Program} {w : World} (lo : Nat) (hlo : lo ≤ w.heap.size) (t tx ty e : TypeId) (i : TypeInfo) (z : Value) (ht : P.underlying t = some (.slice e)) (hi : P.info? e = some i) (hz : i.zero = some z) (hzs : z.cells.size = i.size) (A : Option Addr) (m c : Nat) (olds : List Value)
    (ho : Own lo w e i.size A m c olds) (x : Value) (n : Nat) (news : List Value) (hs : Src P i.size tx x n news w)
    (hb : (m + n) * i.bytes ≤ 140737488355328) (hm : m + n ≤ 4611686018427387904) :
    ∃ A' c' w', (Builtin.append_ #[t, tx] ty #[.slice A m c, x]).run P w = .ok (.slice A' (m + n) c') w' ∧ Own lo w' e i.size A' (m + n) c' (olds ++ news) ∧ Below lo w w' := by
  have hnl := hs.newsLen
  by_cases hr : m + n ≤ c
  · rcases ho.2.2 with ⟨h0, hc⟩ | ⟨g, sp, rfl, hg, hsp, hB⟩
    · obtain rfl : n = 0 := by omega
      obtain rfl : news = [] := List.length_eq_zero_iff.1 (by simpa using hnl)
      refine ⟨A, c, w, ?_, by simpa using ho, Below.refl _ _⟩
      rcases hs.kind with ⟨e', hk⟩ | hk <;> cases A <;> simp [Builtin.append_, run_underlying ht, run_underlying hk, sizeOf, typeInfo, hi, hs.len, ho.1, hs.cells, storeCells]
    · have hlen : (olds ++ sp).length = c * i.size := by
        rw [List.length_append, ho.2.1, hsp, ← Nat.add_mul]
        congr 1
        omega
      have hfit : (m + n) * i.size ≤ c * i.size := Nat.mul_le_mul_right _ hr
      rw [Nat.add_mul] at hfit
      have hol := ho.2.1
      rw [List.length_append] at hlen
      refine ⟨_, c, _, run_append_room_src w t tx ty e i ht hi g 0 m c x n news hs hr (fun j hj => ?_) (fun j hj => hB.frozen _), ⟨hr, by rw [List.length_append, ho.2.1, hnl, Nat.add_mul], .inr ⟨g, sp.drop news.length, rfl, hg, ?_, ?_⟩⟩, ?_⟩
      · rw [hB.cell]
        simp
        omega
      · rw [List.length_drop, hsp, hnl, ← Nat.sub_mul]
        congr 1
        omega
      · have := blk_puts g e news w olds sp hB (by omega)
        rw [Nat.zero_add, ← ho.2.1, List.append_assoc]
        exact this
      · exact below_puts lo g hg _ _ _
  · have hold : (Builtin.firstCells i.size m (.slice A m c)).run P w.drew = .ok olds.toArray w.drew := by
      cases A with
      | none =>
        rcases ho.2.2 with ⟨h0, hc⟩ | ⟨g, sp, h1, _⟩
        · have h1 := ho.2.1
          subst h0
          obtain rfl : olds = [] := List.length_eq_zero_iff.1 (by simpa using h1)
          exact run_firstCells_none _ _ _ _ _
        · cases h1
      | some a =>
        refine run_firstCells_some _ _ _ _ _ _ _ ho.2.1 (fun j u hu => ?_)
        obtain ⟨hj, rfl⟩ := List.getElem?_eq_some_iff.1 hu
        obtain ⟨b, off, e, _, h3⟩ := ho.drew.cells j hj
        cases e
        rw [Addr.add_lit]
        exact h3
    obtain ⟨A', c', w', h1, h2, h3⟩ := run_grow lo hlo t tx ty e i z ht hi hz hzs A m c olds ho.2.1 hold x n news hs (by omega) hb hm
    exact ⟨A', c', w', h1, h2, h3.mono hlo⟩
theorem run_own0 {P : Program} {w : World} (lo : Nat) (hlo : lo ≤ w.heap.size) (t tx ty e : TypeId) (i : TypeInfo) (z : Value) (ht : P.underlying t = some (.slice e)) (hi : P.info? e = some i) (hz : i.zero = some z) (hzs : z.cells.size = i.size) (A : Option Addr)
    (x : Value) (n : Nat) (news : List Value) (hs : Src P i.size tx x n news w) (hb : n * i.bytes ≤ 140737488355328) (hm : n ≤ 4611686018427387904) :
    ∃ A' c' w', (Builtin.append_ #[t, tx] ty #[.slice A 0 0, x]).run P w = .ok (.slice A' (0 + n) c') w' ∧ Own lo w' e i.size A' (0 + n) c' news ∧ (n = 0 → c' = 0) ∧ Below lo w w' := by
  rcases Nat.eq_zero_or_pos n with rfl | hn
  · have hnl := hs.newsLen
    obtain rfl : news = [] := List.length_eq_zero_iff.1 (by simpa using hnl)
    refine ⟨A, 0, w, ?_, Own.nil _ _ _ _ _, fun _ => rfl, Below.refl _ _⟩
    rcases hs.kind with ⟨e', hk⟩ | hk <;> cases A <;> simp [Builtin.append_, run_underlying ht, run_underlying hk, sizeOf, typeInfo, hi, hs.len, hs.cells, storeCells]
  · obtain ⟨A', c', w', h1, h2, h3⟩ := run_own lo hlo t tx ty e i z ht hi hz hzs A 0 0 [] (Own.nil _ _ _ _ _) x n news hs (by simpa using hb) (by omega)
    exact ⟨A', c', w', h1, by simpa using h2, fun h => by omega, h3⟩
/-- The walk at an append whose run is known. -/
theorem wpList_app {P : Program} {w : World} {ops : Array Oper} {rest : List Oper} {o : Oper} {a : Act} {Q : Exit → Act → World → Prop} (hgd : o.guard = none) (s x : Operand) (t tx : TypeId)
    (ho : o.op = .call { callee := .builtin .append, args := #[s, x], argTypes := #[t, tx] }) (A : Option Addr) (m c k : Nat) (xv : Value) (hv : a.eval s = .slice A m c) (hx : a.eval x = xv) {R : Option Addr → Nat → World → Prop}
    (h : ∃ A' c' w', (Builtin.append_ #[t, tx] o.type #[.slice A m c, xv]).run P w = .ok (.slice A' k c') w' ∧ R A' c' w')
    (hK : ∀ A' c' w', R A' c' w' → wpList P ops Q rest (a.put o.dst (.slice A' k c')) w') : wpList P ops Q (o :: rest) a w := by
  refine wpList_plain hgd fun K hK' => ?_
  obtain ⟨A', c', w', hrun, r'⟩ := h
  unfold Oper.wp
  simp [execOp, ho, resolve, invoke, builtin, hv, hx, hrun, Result.andThen]
  exact hK' _ _ (hK A' c' w' r')
end Go.Proofs.YtnaknldbmapolaaGreatDoor
