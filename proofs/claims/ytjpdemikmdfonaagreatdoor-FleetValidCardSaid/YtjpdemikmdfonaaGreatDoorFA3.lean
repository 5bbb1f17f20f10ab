/- Rules of runs and contracts of functions, for the claims of one seat. -/
import Derived.Below
import Derived.Deep.AppendSrc
import Derived.Deep.RegionHeld3
import Derived.Orders
import Derived.Test.YtjpdemikmdfonaaGreatDoorFA1
namespace Go.Proofs.YtjpdemikmdfonaaGreatDoor
open Go.RowKit
set_option linter.unusedSimpArgs false
set_option linter.unusedVariables false
def Own (lo : Nat) (w : World) (t : TypeId) (sz : Nat) (A : Option Addr) (n c : Nat) (xs : List Value) : Prop :=
 n ≤ c ∧ xs.length = n * sz ∧ (n = 0 ∧ c = 0 ∨ ∃ g sp, A = some ⟨g, 0, none⟩ ∧ lo ≤ g ∧ sp.length = (c - n) * sz ∧ Blk w g t (xs ++ sp).toArray)
section
variable {lo : Nat} {w w' : World} {t : TypeId} {sz : Nat} {A : Option Addr} {n c : Nat} {xs : List Value}
theorem Own.ext (h : Own lo w t sz A n c xs) (hb : Below w.heap.size w w') : Own lo w' t sz A n c xs :=
 ⟨h.1, h.2.1, h.2.2.imp id fun ⟨g, sp, h1, h2, h3, h4⟩ => ⟨g, sp, h1, h2, h3, h4.ext hb⟩⟩
theorem Own.alloc (h : Own lo w t sz A n c xs) (o : Obj) : Own lo (w.alloc o) t sz A n c xs := h.ext (ext_alloc (ext_refl _) o)
theorem Own.drew (h : Own lo w t sz A n c xs) : Own lo w.drew t sz A n c xs := h
theorem Own.mono {lo' : Nat} (h : Own lo w t sz A n c xs) (hl : lo' ≤ lo) : Own lo' w t sz A n c xs :=
 ⟨h.1, h.2.1, h.2.2.imp id fun ⟨g, sp, h1, h2, h3, h4⟩ => ⟨g, sp, h1, Nat.le_trans hl h2, h3, h4⟩⟩
theorem Own.cells (h : Own lo w t sz A n c xs) : Cells w A xs := by
 intro j hj
 rcases h.2.2 with ⟨h0, _⟩ | ⟨g, sp, h1, h2, h3, h4⟩
 ·have := h.2.1
  subst h0
  simp at this
  subst this
  simp at hj
 ·refine ⟨g, 0, h1, h4.lt, ?_⟩
  rw [h4.cell]
  simp [List.getElem?_append_left hj, List.getElem?_eq_getElem hj]
theorem Own.nil (lo : Nat) (w : World) (t : TypeId) (sz : Nat) (A : Option Addr) : Own lo w t sz A 0 0 [] := ⟨Nat.le_refl _, by simp, .inl ⟨rfl, rfl⟩⟩
theorem Own.blk (h : Own lo w t sz A n c xs) (hn : 0 < n) : ∃ g sp, A = some ⟨g, 0, none⟩ ∧ lo ≤ g ∧ sp.length = (c - n) * sz ∧ Blk w g t (xs ++ sp).toArray := h.2.2.resolve_left (by omega)
end
theorem Cells.none {w : World} {A : Option Addr} {xs : List Value} (h : Cells w A xs) : A = none → xs.length = 0 := by
 intro e
 rcases Nat.eq_zero_or_pos xs.length with h0 | h0
 ·exact h0
 ·obtain ⟨b, off, h1, _⟩ := h 0 h0
  rw [e] at h1
  cases h1
theorem src_cells {P : Program} {w : World} {size : Nat} {tx e' : TypeId} {A : Option Addr} {n c : Nat} {xs : List Value} (hk : P.underlying tx = some (.slice e')) (h : Cells w A xs) (hl : xs.length = n * size) (h0 : A = none → n = 0)
    (h1 : ∀ u ∈ xs, u.oneCell' = true) : Src P size tx (.slice A n c) n xs w := by
 cases A with
 | none =>
  have hn := h0 rfl
  subst hn
  obtain rfl : xs = [] := List.length_eq_zero_iff.1 (by simpa using hl)
  exact Src.ofNil w hk c
 | some a =>
  refine Src.ofSlice w hk a n c xs hl (fun j u hu => ?_) h1
  obtain ⟨hj, rfl⟩ := List.getElem?_eq_some_iff.1 hu
  obtain ⟨b, off, e, _, h3⟩ := h j hj
  cases e
  rw [Addr.add_lit]
  exact h3
theorem run_grow {P : Program} {w : World} (lo : Nat) (hlo : lo ≤ w.heap.size) (t tx ty e : TypeId) (i : TypeInfo) (z : Value) (ht : P.underlying t = some (.slice e)) (hi : P.info? e = some i) (hz : i.zero = some z) (hzs : z.cells.size = i.size) (A : Option Addr) (m c : Nat) (olds : List Value) (hol : olds.length = m * i.size)
    (hold : (Builtin.firstCells i.size m (.slice A m c)).run P w.drew = .ok olds.toArray w.drew) (x : Value) (n : Nat) (news : List Value) (hs : Src P i.size tx x n news w)
    (hg : c < m + n) (hb : (m + n) * i.bytes ≤ 140737488355328) (hm : m + n ≤ 4611686018427387904) :
    ∃ A' c' w', (Builtin.append_ #[t, tx] ty #[.slice A m c, x]).run P w = .ok (.slice A' (m + n) c') w' ∧ Own lo w' e i.size A' (m + n) c' (olds ++ news) ∧ Below w.heap.size w w' := by
 refine ⟨_, _, _, run_append_grow_src w t tx ty e i z ht hi hz A m c olds hold x n news hs hg (by omega) (growslice_fits hg hb), ⟨grownCap_ge _ _ _ _, by rw [List.length_append, hol, hs.newsLen, Nat.add_mul], .inr ⟨w.heap.size, (Builtin.zeroCells z.cells (grownCap w (m + n) c e - (m + n))).toList, rfl, hlo, by rw [Array.length_toList, size_zeroCells, hzs], ?_⟩⟩, ext_alloc (ext_drew (ext_refl _)) _⟩
 have e1 : (olds ++ news ++ (Builtin.zeroCells z.cells (grownCap w (m + n) c e - (m + n))).toList).toArray = (olds ++ news).toArray ++ Builtin.zeroCells z.cells (grownCap w (m + n) c e - (m + n)) := by
  apply Array.ext'; simp
 rw [e1]
 exact Blk.new w.drew e _
theorem blk_puts (g : Nat) (t : TypeId) : ∀ (vs : List Value) (w : World) (pre suf : List Value), Blk w g t (pre ++ suf).toArray → vs.length ≤ suf.length → Blk (w.setCells g pre.length vs) g t (pre ++ (vs ++ suf.drop vs.length)).toArray
 | [], w, pre, suf, h, _ => by simpa [World.setCells] using h
 | v :: vs, w, pre, [], h, hl => by simp at hl
 | v :: vs, w, pre, s :: suf, h, hl => by
  have h1 := h.put pre.length v
  have e1 : (pre ++ s :: suf).toArray.setIfInBounds pre.length v = ((pre ++ [v]) ++ suf).toArray := by
   apply Array.ext'
   simp
  rw [e1] at h1
  have h2 := blk_puts g t vs _ (pre ++ [v]) suf h1 (by simpa using hl)
  simpa [World.setCells, List.append_assoc] using h2
theorem below_puts (B g : Nat) (hg : B ≤ g) : ∀ (vs : List Value) (o : Nat) (w : World), Below B w (w.setCells g o vs)
 | [], o, w => Below.refl _ _
 | v :: vs, o, w => by
  have h1 : Below B w (w.setCell ⟨g, o, none⟩ v) := (Below.refl B w).setCell hg v
  simpa [World.setCells] using h1.trans (below_puts B g hg vs (o + 1) _)
theorem run_own {P : Program} {w : World} (lo : Nat) (hlo : lo ≤ w.heap.size) (t tx ty e : TypeId) (i : TypeInfo) (z : Value) (ht : P.underlying t = some (.slice e)) (hi : P.info? e = some i) (hz : i.zero = some z) (hzs : z.cells.size = i.size) (A : Option Addr) (m c : Nat) (olds : List Value)
    (ho : Own lo w e i.size A m c olds) (x : Value) (n : Nat) (news : List Value) (hs : Src P i.size tx x n news w)
    (hb : (m + n) * i.bytes ≤ 140737488355328) (hm : m + n ≤ 4611686018427387904) :
    ∃ A' c' w', (Builtin.append_ #[t, tx] ty #[.slice A m c, x]).run P w = .ok (.slice A' (m + n) c') w' ∧ Own lo w' e i.size A' (m + n) c' (olds ++ news) ∧ Below lo w w' := by
 have hnl := hs.newsLen
 by_cases hr : m + n ≤ c
 ·rcases ho.2.2 with ⟨h0, hc⟩ | ⟨g, sp, rfl, hg, hsp, hB⟩
  ·obtain rfl : n = 0 := by omega
   obtain rfl : news = [] := List.length_eq_zero_iff.1 (by simpa using hnl)
   refine ⟨A, c, w, ?_, by simpa using ho, Below.refl _ _⟩
   rcases hs.kind with ⟨e', hk⟩ | hk <;> cases A <;> simp [Builtin.append_, run_underlying ht, run_underlying hk, sizeOf, typeInfo, hi, hs.len, ho.1, hs.cells, storeCells]
  ·have hlen : (olds ++ sp).length = c * i.size := by
     rw [List.length_append, ho.2.1, hsp, ← Nat.add_mul]
     congr 1
     omega
   have hfit : (m + n) * i.size ≤ c * i.size := Nat.mul_le_mul_right _ hr
   rw [Nat.add_mul] at hfit
   have hol := ho.2.1
   rw [List.length_append] at hlen
   refine ⟨_, c, _, run_append_room_src w t tx ty e i ht hi g 0 m c x n news hs hr (fun j hj => ?_) (fun j hj => hB.frozen _), ⟨hr, by rw [List.length_append, ho.2.1, hnl, Nat.add_mul], .inr ⟨g, sp.drop news.length, rfl, hg, ?_, ?_⟩⟩, ?_⟩
   ·rw [hB.cell]
    simp
    omega
   ·rw [List.length_drop, hsp, hnl, ← Nat.sub_mul]
    congr 1
    omega
   ·have := blk_puts g e news w olds sp hB (by omega)
    rw [Nat.zero_add, ← ho.2.1, List.append_assoc]
    exact this
   ·exact below_puts lo g hg _ _ _
 ·have hold : (Builtin.firstCells i.size m (.slice A m c)).run P w.drew = .ok olds.toArray w.drew := by
    cases A with
    | none =>
     rcases ho.2.2 with ⟨h0, hc⟩ | ⟨g, sp, h1, _⟩
     ·have h1 := ho.2.1
      subst h0
      obtain rfl : olds = [] := List.length_eq_zero_iff.1 (by simpa using h1)
      exact run_firstCells_none _ _ _ _ _
     ·cases h1
    | some a =>
     refine run_firstCells_some _ _ _ _ _ _ _ ho.2.1 (fun j u hu => ?_)
     obtain ⟨hj, rfl⟩ := List.getElem?_eq_some_iff.1 hu
     obtain ⟨b, off, e, _, h3⟩ := ho.drew.cells j hj
     cases e
     rw [Addr.add_lit]
     exact h3
  obtain ⟨A', c', w', h1, h2, h3⟩ := run_grow lo hlo t tx ty e i z ht hi hz hzs A m c olds ho.2.1 hold x n news hs (by omega) hb hm
  exact ⟨A', c', w', h1, h2, h3.mono hlo⟩
theorem run_own0 {P : Program} {w : World} (lo : Nat) (hlo : lo ≤ w.heap.size) (t tx ty e : TypeId) (i : TypeInfo) (z : Value) (ht : P.underlying t = some (.slice e)) (hi : P.info? e = some i) (hz : i.zero = some z) (hzs : z.cells.size = i.size) (A : Option Addr)
    (x : Value) (n : Nat) (news : List Value) (hs : Src P i.size tx x n news w) (hb : n * i.bytes ≤ 140737488355328) (hm : n ≤ 4611686018427387904) :
    ∃ A' c' w', (Builtin.append_ #[t, tx] ty #[.slice A 0 0, x]).run P w = .ok (.slice A' (0 + n) c') w' ∧ Own lo w' e i.size A' (0 + n) c' news ∧ (n = 0 → c' = 0) ∧ Below lo w w' := by
 rcases Nat.eq_zero_or_pos n with rfl | hn
 ·have hnl := hs.newsLen
  obtain rfl : news = [] := List.length_eq_zero_iff.1 (by simpa using hnl)
  refine ⟨A, 0, w, ?_, Own.nil _ _ _ _ _, fun _ => rfl, Below.refl _ _⟩
  rcases hs.kind with ⟨e', hk⟩ | hk <;> cases A <;> simp [Builtin.append_, run_underlying ht, run_underlying hk, sizeOf, typeInfo, hi, hs.len, hs.cells, storeCells]
 ·obtain ⟨A', c', w', h1, h2, h3⟩ := run_own lo hlo t tx ty e i z ht hi hz hzs A 0 0 [] (Own.nil _ _ _ _ _) x n news hs (by simpa using hb) (by omega)
  exact ⟨A', c', w', h1, by simpa using h2, fun h => by omega, h3⟩
theorem wpList_app {P : Program} {w : World} {ops : Array Oper} {rest : List Oper} {o : Oper} {a : Act} {Q : Exit → Act → World → Prop} (hgd : o.guard = none) (s x : Operand) (t tx : TypeId)
    (ho : o.op = .call { callee := .builtin .append, args := #[s, x], argTypes := #[t, tx] }) (A : Option Addr) (m c k : Nat) (xv : Value) (hv : a.eval s = .slice A m c) (hx : a.eval x = xv) {R : Option Addr → Nat → World → Prop}
    (h : ∃ A' c' w', (Builtin.append_ #[t, tx] o.type #[.slice A m c, xv]).run P w = .ok (.slice A' k c') w' ∧ R A' c' w')
    (hK : ∀ A' c' w', R A' c' w' → wpList P ops Q rest (a.put o.dst (.slice A' k c')) w') : wpList P ops Q (o :: rest) a w := by
 refine wpList_plain hgd fun K hK' => ?_
 obtain ⟨A', c', w', hrun, r'⟩ := h
 unfold Oper.wp
 simp [execOp, ho, resolve, invoke, builtin, hv, hx, hrun, Result.andThen]
 exact hK' _ _ (hK A' c' w' r')
end Go.Proofs.YtjpdemikmdfonaaGreatDoor
namespace Go.Proofs.YtjpdemikmdfonaaGreatDoor
open Go Go.RowKit
set_option linter.unusedSimpArgs false
set_option linter.unusedVariables false
section
variable {P : Program} {ops : Array Oper}
abbrev VP := Value → Nat → Nat → World → Prop
def Makes (P : Program) (o : Oper) (a : Act) (w : World) (V : VP) : Prop :=
 match (execOp a.eval o).run P w with
 | .ok (.value v) w' => V v w.heap.size w'.heap.size w' ∧ Below w.heap.size w w'
 | .ok .skip w' => V undef w.heap.size w'.heap.size w' ∧ Below w.heap.size w w'
 | .ok (.enter f args) w' => w' = w ∧ Calls P f args w fun e w'' => ∃ v, e = .returned v ∧ V v w.heap.size w''.heap.size w'' ∧ Below w.heap.size w w''
 | _ => False
theorem Makes.wp {o : Oper} {a : Act} {w : World} {V : VP} {K : Act → World → Prop} {Q : Exit → Act → World → Prop} (h : Makes P o a w V)
    (hK : ∀ v w', V v w.heap.size w'.heap.size w' → Below w.heap.size w w' → K (a.put o.dst v) w') : o.wp P a w K Q := by
 unfold Makes at h
 unfold Oper.wp
 generalize (execOp a.eval o).run P w = r at *
 cases r with
 | ok n w' =>
  cases n <;> simp only [] at h <;> simp only [Oper.upon]
  case value v => exact hK _ _ h.1 h.2
  case skip => exact hK _ _ h.1 h.2
  case enter f args =>
   obtain ⟨rfl, hc⟩ := h
   exact hc.mono fun e w'' ⟨v, he, h1, h2⟩ => by subst he; exact hK _ _ h1 h2
 | halt x w' => exact h.elim
section
variable {Q : Exit → Act → World → Prop} {m : Nat}
theorem getD_true {l : Array Bool} {i : Nat} (h : i < l.size) : l.getD i true = l.getD i false := by simp [Array.getD, h]
def undone (listed : Array Bool) : Nat → Nat
 | 0 => 0
 | m + 1 => undone listed m + (if listed.getD m false = true then 0 else 1)
theorem undone_zero {listed : Array Bool} : ∀ {m : Nat}, undone listed m = 0 → ∀ i, i < m → listed.getD i false = true
 | 0, _, i, hi => absurd hi (by omega)
 | m + 1, h, i, hi => by
  unfold undone at h
  by_cases e : i = m
  ·subst e
   by_cases g : listed.getD i false = true
   ·exact g
   ·rw [if_neg g] at h; omega
  ·exact undone_zero (m := m) (by omega) i (by omega)
theorem undone_pos {listed : Array Bool} : ∀ {m : Nat}, 0 < undone listed m → ∃ i, i < m ∧ listed.getD i false = false ∧ ∀ j, j < i → listed.getD j false = true
 | 0, h => absurd h (by simp [undone])
 | m + 1, h => by
  by_cases g : undone listed m = 0
  ·unfold undone at h
   refine ⟨m, by omega, ?_, undone_zero g⟩
   cases hq : listed.getD m false
   ·rfl
   ·rw [if_pos hq] at h; omega
  ·obtain ⟨i, h1, h2⟩ := undone_pos (listed := listed) (m := m) (by omega)
   exact ⟨i, by omega, h2⟩
theorem getD_set {listed : Array Bool} {i j : Nat} (hi : i < listed.size) : (listed.setIfInBounds i true).getD j false = if j = i then true else listed.getD j false := by
 by_cases e : j = i
 ·subst e
  simp [Array.getD_eq_getD_getElem?, hi]
 ·rw [if_neg e]
  simp [Array.getD_eq_getD_getElem?, Array.getElem?_setIfInBounds_ne (Ne.symm e)]
theorem undone_same {listed : Array Bool} {i : Nat} (hi : i < listed.size) : ∀ {m : Nat}, m ≤ i → undone (listed.setIfInBounds i true) m = undone listed m
 | 0, _ => rfl
 | m + 1, h => by
  unfold undone
  rw [undone_same hi (by omega), getD_set hi, if_neg (show ¬ m = i by omega)]
theorem undone_set {listed : Array Bool} {i : Nat} (hi : i < listed.size) (hd : listed.getD i false = false) : ∀ {m : Nat}, i < m → undone (listed.setIfInBounds i true) m + 1 = undone listed m
 | 0, h => absurd h (by omega)
 | m + 1, h => by
  unfold undone
  rw [getD_set hi]
  by_cases e : m = i
  ·subst e
   rw [undone_same hi (Nat.le_refl _), if_pos rfl, hd]
   simp
  ·rw [if_neg e]
   have := undone_set hi hd (m := m) (by omega)
   omega
theorem opt_lt {i : Nat} {o : Oper} (h : ops[i]? = some o) : i < ops.size := by
 rcases Nat.lt_or_ge i ops.size with g | g
 ·exact g
 ·rw [Array.getElem?_eq_none g] at h; cases h
theorem undone_all : ∀ (n m : Nat), undone (Array.replicate n false) m = m
 | n, 0 => rfl
 | n, m + 1 => by
  unfold undone
  rw [undone_all n m, if_neg]
  by_cases h : m < n <;> simp [Array.getD, h]
end
end
end Go.Proofs.YtjpdemikmdfonaaGreatDoor
namespace Go.Proofs.YtjpdemikmdfonaaGreatDoor
open Go Go.RowKit
set_option linter.unusedSimpArgs false
set_option linter.unusedVariables false
inductive D where
 | v (x : Value)
 | sl (sz : Nat) (rows : List (List D))
instance : Inhabited D := ⟨.v undef⟩
def scal : Value → Bool
 | .bool _ => true
 | .int .. => true
 | .float .. => true
 | .string _ => true
 | .nilFunc => true
 | .nilIface => true
 | .pointer none => true
 | .func (.func _) a b => a.isEmpty && b.isEmpty
 | _ => false
structure Keep (S : Nat → Prop) (w w' : World) : Prop where
 os : w'.os = w.os
 tape : w'.tape = w.tape
 output : w'.output = w.output
 size : w.heap.size ≤ w'.heap.size
 block : ∀ k, k < w.heap.size → S k → w'.heap[k]? = w.heap[k]?
section
variable {S S' : Nat → Prop} {w w' w'' : World}
theorem Keep.refl (S : Nat → Prop) (w : World) : Keep S w w := ⟨rfl, rfl, rfl, Nat.le_refl _, fun _ _ _ => rfl⟩
theorem Keep.trans (h : Keep S w w') (k : Keep S w' w'') : Keep S w w'' :=
 ⟨k.os.trans h.os, k.tape.trans h.tape, k.output.trans h.output, Nat.le_trans h.size k.size, fun b hb hs => (k.block b (Nat.lt_of_lt_of_le hb h.size) hs).trans (h.block b hb hs)⟩
theorem Keep.mono (h : Keep S w w') (hs : ∀ b, b < w.heap.size → S' b → S b) : Keep S' w w' := ⟨h.os, h.tape, h.output, h.size, fun b hb h' => h.block b hb (hs b hb h')⟩
theorem Keep.alloc (S : Nat → Prop) (w : World) (o : Obj) : Keep S w (w.alloc o) := ⟨rfl, rfl, rfl, by simp, fun b hb _ => Below.heap_alloc w o b hb⟩
theorem Keep.drew (S : Nat → Prop) (w : World) : Keep S w w.drew := ⟨rfl, rfl, rfl, Nat.le_refl _, fun _ _ _ => rfl⟩
theorem Keep.setCell (w : World) {b o : Nat} (h : ¬ S b) (u : Value) : Keep S w (w.setCell ⟨b, o, none⟩ u) :=
 ⟨rfl, rfl, rfl, by simp [World.setCell], fun k _ hs => Below.heap_setCell w ⟨b, o, none⟩ u k (fun e => h (by rw [← show k = b from e]; exact hs))⟩
theorem Keep.of_below {B : Nat} (h : Below B w w') (hs : ∀ b, b < w.heap.size → S b → b < B) : Keep S w w' := ⟨h.os, h.tape, h.output, h.size, fun b hb h' => h.block b (hs b hb h')⟩
theorem Keep.below (h : Keep S w w') {B : Nat} (hB : B ≤ w.heap.size) (hs : ∀ b, b < B → S b) : Below B w w' := ⟨h.os, h.tape, h.output, h.size, fun b hb => h.block b (Nat.lt_of_lt_of_le hb hB) (hs b hb)⟩
theorem Keep.cell (h : Keep S w w') {b o : Nat} {u : Value} (hs : S b) (hc : w.cell? ⟨b, o, none⟩ = some u) : w'.cell? ⟨b, o, none⟩ = some u := by
 have hb : b < w.heap.size := by
  rcases Nat.lt_or_ge b w.heap.size with hl | hg
  ·exact hl
  ·simp [World.cell?, Array.getElem?_eq_none hg] at hc
 exact (World.cell?_of_block (w := w) (h.block b hb hs)).trans hc
end
inductive Rd (S : Nat → Prop) (w : World) : D → Value → Prop
 | v {x : Value} (h : scal x = true) : Rd S w (.v x) x
 | sl {sz : Nat} {rows : List (List D)} {A : Option Addr} {c b o : Nat} {cv : Nat → Nat → Value} (hc : rows.length ≤ c) (hb : rows.length ≤ 4611686018427387904)
     (hA : rows ≠ [] → A = some ⟨b, o, none⟩ ∧ b < w.heap.size ∧ S b)
     (hl : ∀ (i : Nat) (row : List D), rows[i]? = some row → row.length = sz)
     (hcell : ∀ (i : Nat) (row : List D) (j : Nat) (d : D), rows[i]? = some row → row[j]? = some d → w.cell? ⟨b, o + (i * sz + j), none⟩ = some (cv i j))
     (hr : ∀ (i : Nat) (row : List D) (j : Nat) (d : D), rows[i]? = some row → row[j]? = some d → Rd S w d (cv i j)) : Rd S w (.sl sz rows) (.slice A rows.length c)
section
variable {S S' : Nat → Prop} {w w' w'' : World}
theorem ne_nil_of_get {α : Type} {l : List α} {i : Nat} {x : α} (h : l[i]? = some x) : l ≠ [] := by rintro rfl; simp at h
theorem Rd.keep {d : D} {v : Value} (h : Rd S w d v) (hk : Keep S w w') : Rd S w' d v := by
 induction h with
 | v h => exact .v h
 | sl hc hb hA hl hcell hr ih =>
  exact .sl hc hb (fun hne => ⟨(hA hne).1, Nat.lt_of_lt_of_le (hA hne).2.1 hk.size, (hA hne).2.2⟩) hl
   (fun i row j d h1 h2 => hk.cell (hA (ne_nil_of_get h1)).2.2 (hcell i row j d h1 h2)) ih
theorem Rd.mono {d : D} {v : Value} (h : Rd S w d v) (hs : ∀ b, b < w.heap.size → S b → S' b) : Rd S' w d v := by
 induction h with
 | v h => exact .v h
 | sl hc hb hA hl hcell hr ih => exact .sl hc hb (fun hne => ⟨(hA hne).1, (hA hne).2.1, hs _ (hA hne).2.1 (hA hne).2.2⟩) hl hcell ih
theorem scal_one {x : Value} (h : scal x = true) : x.oneCell' = true := by cases x <;> first | rfl | simp [scal] at h
theorem Rd.one {d : D} {v : Value} (h : Rd S w d v) : v.oneCell' = true := by
 cases h with
 | v h => exact scal_one h
 | sl => rfl
theorem Rd.val {x : Value} {v : Value} (h : Rd S w (.v x) v) : v = x ∧ scal x = true := by cases h with | v h => exact ⟨rfl, h⟩
end
abbrev Key := Nat × Nat
inductive Cap where
 | d (d : D)
 | ptr (q : Key) (off : Nat)
 | rptr (row : List D) (off : Nat)
inductive C where
 | d (d : D)
 | zero
 | own (q : Key)
 | ptr (q : Key) (off : Nat)
 | eptr (q : Key) (i off : Nat)
 | rptr (row : List D) (off : Nat)
 | arr (q : Key) (n sz : Nat)
 | mp (q : Key)
 | fn (g : FuncId) (caps : List Cap)
 | dead
instance : Inhabited C := ⟨.dead⟩
inductive AV where
 | one (b : Bool) (cs : List C)
 | tup (xs : List (Bool × List C))
 | un
 | dead
instance : Inhabited AV := ⟨.dead⟩
inductive Box where
 | st (ty : TypeId) (cs : List C)
 | sl (ty : TypeId) (sz : Nat) (rows : List (List D))
 | fz (sz : Nat) (rows : List (List D))
 | mp (es : Array MapEntry) (clock : Nat)
 | ca (ty : TypeId) (sz : Nat) (rows : List (List C))
def Box.live : Box → Bool
 | .fz .. => false
 | _ => true
structure Hd where
 A : Option Addr
 g : Option Nat
 n : Nat
 cap : Nat
 sz : Nat
def Im (V : Nat → Prop) (ρ : Key → Hd) (lb : Key → Option Box) (b : Nat) : Prop := ¬ V b ∧ ∀ q box, lb q = some box → box.live = true → (ρ q).g ≠ some b
def RPtr (S : Nat → Prop) (w : World) (row : List D) (o : Nat) (v : Value) : Prop := ∃ (b o' : Nat) (cv : Nat → Value), v = .pointer (some ⟨b, o' + o, none⟩) ∧ b < w.heap.size ∧ S b ∧ ∀ (j : Nat) (d : D), row[j]? = some d → w.cell? ⟨b, o' + j, none⟩ = some (cv j) ∧ Rd S w d (cv j)
def CapRel (S : Nat → Prop) (ρ : Key → Hd) (ok : Key → Prop) (w : World) : Cap → Value → Prop
 | .d x, v => Rd S w x v
 | .ptr q o, v => ok q ∧ ∃ b, (ρ q).g = some b ∧ v = .pointer (some ⟨b, o, none⟩)
 | .rptr row o, v => RPtr S w row o v
inductive Caps (R : Cap → Value → Prop) : List Cap → List Value → Prop
 | nil : Caps R [] []
 | cons {c : Cap} {v : Value} {cs : List Cap} {vs : List Value} (h : R c v) (t : Caps R cs vs) : Caps R (c :: cs) (v :: vs)
theorem Caps.imp {R R' : Cap → Value → Prop} {cs : List Cap} {vs : List Value} (h : Caps R cs vs) (hi : ∀ c v, c ∈ cs → R c v → R' c v) : Caps R' cs vs := by
 induction h with
 | nil => exact .nil
 | cons h t ih => exact .cons (hi _ _ (by simp) h) (ih fun c v hc => hi c v (by simp [hc]))
theorem Caps.length {R : Cap → Value → Prop} {cs : List Cap} {vs : List Value} (h : Caps R cs vs) : cs.length = vs.length := by induction h with | nil => rfl | cons _ _ ih => simp [ih]
def CRel (S : Nat → Prop) (ρ : Key → Hd) (ok : Key → Prop) (w : World) : C → Value → Prop
 | .d d, v => Rd S w d v
 | .zero, v => ∃ A, v = .slice A 0 0
 | .own q, v => ok q ∧ v = .slice (ρ q).A (ρ q).n (ρ q).cap
 | .ptr q o, v => ok q ∧ ∃ b, (ρ q).g = some b ∧ v = .pointer (some ⟨b, o, none⟩)
 | .eptr q i o, v => ok q ∧ ∃ b, (ρ q).g = some b ∧ v = .pointer (some ⟨b, i * (ρ q).sz + o, none⟩)
 | .rptr row o, v => ∃ (b o' : Nat) (cv : Nat → Value), v = .pointer (some ⟨b, o' + o, none⟩) ∧ b < w.heap.size ∧ S b ∧ ∀ (j : Nat) (d : D), row[j]? = some d → w.cell? ⟨b, o' + j, none⟩ = some (cv j) ∧ Rd S w d (cv j)
 | .arr q n z, v => ok q ∧ ∃ b, (ρ q).g = some b ∧ ∃ cp, n ≤ cp ∧ v = .slice (some ⟨b, 0, none⟩) n cp
 | .mp q, v => ok q ∧ ∃ b, (ρ q).g = some b ∧ v = .map (some b)
 | .fn g caps, v => ∃ vs, v = .func (.func g) #[] vs.toArray ∧ Caps (CapRel S ρ ok w) caps vs
 | .dead, v => v.oneCell' = true
inductive All2 (R : C → Value → Prop) : List C → List Value → Prop
 | nil : All2 R [] []
 | cons {c : C} {v : Value} {cs : List C} {vs : List Value} (h : R c v) (t : All2 R cs vs) : All2 R (c :: cs) (v :: vs)
section
variable {R R' : C → Value → Prop} {cs cs' : List C} {vs vs' : List Value}
theorem All2.length (h : All2 R cs vs) : cs.length = vs.length := by induction h with | nil => rfl | cons _ _ ih => simp [ih]
theorem All2.imp (h : All2 R cs vs) (hi : ∀ c v, c ∈ cs → R c v → R' c v) : All2 R' cs vs := by
 induction h with
 | nil => exact .nil
 | cons h t ih => exact .cons (hi _ _ (by simp) h) (ih fun c v hc => hi c v (by simp [hc]))
theorem All2.get (h : All2 R cs vs) : ∀ {i : Nat} {c : C}, cs[i]? = some c → ∃ v, vs[i]? = some v ∧ R c v := by
 induction h with
 | nil => intro i c hc; simp at hc
 | cons h t ih =>
  intro i c hc
  cases i with
  | zero => simp at hc; subst hc; exact ⟨_, by simp, h⟩
  | succ i => simpa using ih (by simpa using hc)
theorem All2.drop (h : All2 R cs vs) : ∀ n, All2 R (cs.drop n) (vs.drop n) := by
 induction h with
 | nil => intro n; simpa using All2.nil
 | cons h t ih =>
  intro n
  cases n with
  | zero => simpa using All2.cons h t
  | succ n => simpa using ih n
theorem All2.take (h : All2 R cs vs) : ∀ n, All2 R (cs.take n) (vs.take n) := by
 induction h with
 | nil => intro n; simpa using All2.nil
 | cons h t ih =>
  intro n
  cases n with
  | zero => simpa using All2.nil
  | succ n => simpa using All2.cons h (ih n)
theorem All2.append (h : All2 R cs vs) (h' : All2 R cs' vs') : All2 R (cs ++ cs') (vs ++ vs') := by
 induction h with
 | nil => exact h'
 | cons h t ih => exact .cons h ih
end
def One (R : C → Value → Prop) (b : Bool) (cs : List C) (v : Value) : Prop := ∃ vs, All2 R cs vs ∧ (if b = true then v = .agg vs.toArray else vs = [v])
inductive Alls (R : C → Value → Prop) : List (Bool × List C) → List Value → Prop
 | nil : Alls R [] []
 | cons {b : Bool} {cs : List C} {v : Value} {xs : List (Bool × List C)} {vs : List Value} (h : One R b cs v) (t : Alls R xs vs) : Alls R ((b, cs) :: xs) (v :: vs)
def AVRel (R : C → Value → Prop) : AV → Value → Prop
 | .one b cs, v => One R b cs v
 | .tup xs, v => ∃ vs, v = .tuple vs.toArray ∧ Alls R xs vs
 | .un, v => v = undef
 | .dead, _ => True
section
variable {R R' : C → Value → Prop}
theorem One.imp {b : Bool} {cs : List C} {v : Value} (h : One R b cs v) (hi : ∀ c v, R c v → R' c v) : One R' b cs v := let ⟨vs, h1, h2⟩ := h; ⟨vs, h1.imp fun c v _ => hi c v, h2⟩
theorem Alls.imp {xs : List (Bool × List C)} {vs : List Value} (h : Alls R xs vs) (hi : ∀ c v, R c v → R' c v) : Alls R' xs vs := by
 induction h with
 | nil => exact .nil
 | cons h t ih => exact .cons (h.imp hi) ih
theorem AVRel.imp {av : AV} {v : Value} (h : AVRel R av v) (hi : ∀ c v, R c v → R' c v) : AVRel R' av v := by
 cases av with
 | one b cs => exact One.imp h hi
 | tup xs => obtain ⟨vs, h1, h2⟩ := h; exact ⟨vs, h1, h2.imp hi⟩
 | un => exact h
 | dead => trivial
theorem Alls.get {xs : List (Bool × List C)} {vs : List Value} (h : Alls R xs vs) : ∀ {i : Nat} {b : Bool} {cs : List C}, xs[i]? = some (b, cs) → ∃ v, vs[i]? = some v ∧ One R b cs v := by
 induction h with
 | nil => intro i b cs hc; simp at hc
 | cons h t ih =>
  intro i b cs hc
  cases i with
  | zero => simp at hc; obtain ⟨rfl, rfl⟩ := hc; exact ⟨_, by simp, h⟩
  | succ i => simpa using ih (by simpa using hc)
end
section
variable {S S' : Nat → Prop} {ρ ρ' : Key → Hd} {ok ok' : Key → Prop} {w w' : World}
theorem CRel.one {c : C} {v : Value} (h : CRel S ρ ok w c v) : v.oneCell' = true := by
 cases c with
 | d d => exact Rd.one h
 | zero => obtain ⟨A, rfl⟩ := h; rfl
 | own q => obtain ⟨_, rfl⟩ := h; rfl
 | ptr q o => obtain ⟨_, b, _, rfl⟩ := h; rfl
 | eptr q i o => obtain ⟨_, b, _, rfl⟩ := h; rfl
 | rptr row o => obtain ⟨b, o', cv, rfl, _⟩ := h; rfl
 | arr q n z => obtain ⟨_, b, _, cp, _, rfl⟩ := h; rfl
 | mp q => obtain ⟨_, b, _, rfl⟩ := h; rfl
 | fn g caps => obtain ⟨vs, rfl, _⟩ := h; rfl
 | dead => exact h
theorem RPtr.keep {row : List D} {o : Nat} {v : Value} (h : RPtr S w row o v) (hk : Keep S' w w') (hs : ∀ b, b < w.heap.size → S b → S' b) : RPtr S' w' row o v := by
 obtain ⟨b, o', cv, h1, h0, h2, h3⟩ := h
 exact ⟨b, o', cv, h1, Nat.lt_of_lt_of_le h0 hk.size, hs b h0 h2, fun j d hj => ⟨hk.cell (hs b h0 h2) (h3 j d hj).1, ((h3 j d hj).2.mono hs).keep hk⟩⟩
theorem CapRel.keep {c : Cap} {v : Value} (h : CapRel S ρ ok w c v) (hk : Keep S' w w') (hs : ∀ b, b < w.heap.size → S b → S' b) (hρ : ∀ q : Key, ok q → ρ' q = ρ q) (hn : ∀ q : Key, ok q → ok' q) : CapRel S' ρ' ok' w' c v := by
 cases c with
 | d d => exact (Rd.mono h hs).keep hk
 | ptr q o => obtain ⟨h1, b, h2, h3⟩ := h; exact ⟨hn q h1, b, by rw [hρ q h1]; exact h2, h3⟩
 | rptr row o => exact RPtr.keep h hk hs
theorem CRel.keep {c : C} {v : Value} (h : CRel S ρ ok w c v) (hk : Keep S' w w') (hs : ∀ b, b < w.heap.size → S b → S' b) (hρ : ∀ q : Key, ok q → ρ' q = ρ q) (hn : ∀ q : Key, ok q → ok' q) : CRel S' ρ' ok' w' c v := by
 cases c with
 | d d => exact (Rd.mono h hs).keep hk
 | zero => exact h
 | own q => exact ⟨hn q h.1, by rw [hρ q h.1]; exact h.2⟩
 | ptr q o => obtain ⟨h1, b, h2, h3⟩ := h; exact ⟨hn q h1, b, by rw [hρ q h1]; exact h2, h3⟩
 | eptr q i o => obtain ⟨h1, b, h2, h3⟩ := h; exact ⟨hn q h1, b, by rw [hρ q h1]; exact h2, by rw [hρ q h1]; exact h3⟩
 | rptr row o =>
  obtain ⟨b, o', cv, h1, h0, h2, h3⟩ := h
  exact ⟨b, o', cv, h1, Nat.lt_of_lt_of_le h0 hk.size, hs b h0 h2, fun j d hj => ⟨hk.cell (hs b h0 h2) (h3 j d hj).1, ((h3 j d hj).2.mono hs).keep hk⟩⟩
 | arr q n z => obtain ⟨h1, b, h2, h3⟩ := h; exact ⟨hn q h1, b, by rw [hρ q h1]; exact h2, h3⟩
 | mp q => obtain ⟨h1, b, h2, h3⟩ := h; exact ⟨hn q h1, b, by rw [hρ q h1]; exact h2, h3⟩
 | fn g caps => obtain ⟨vs, h1, h2⟩ := h; exact ⟨vs, h1, h2.imp fun c v _ hc => hc.keep hk hs hρ hn⟩
 | dead => exact h
end
theorem mk_flat {α : Type} {sz : Nat} : ∀ {rows : List (List α)}, (∀ (i : Nat) (row : List α), rows[i]? = some row → row.length = sz) → ∀ {i j : Nat} {row : List α}, rows[i]? = some row → j < sz → rows.flatten[i * sz + j]? = row[j]?
 | [], _, i, j, row, h, _ => by simp at h
 | r :: rows, hl, i, j, row, h, hj => by
  have h0 := hl 0 r (by simp)
  cases i with
  | zero =>
   simp at h
   subst h
   rw [List.flatten_cons, Nat.zero_mul, Nat.zero_add, List.getElem?_append_left (by omega)]
  | succ i =>
   rw [List.flatten_cons, List.getElem?_append_right (by rw [h0, Nat.succ_mul]; omega), show (i + 1) * sz + j - r.length = i * sz + j by rw [h0, Nat.succ_mul]; omega]
   exact mk_flat (fun k row hk => hl (k + 1) row (by simpa using hk)) (by simpa using h) hj
theorem flat_len {α : Type} {sz : Nat} : ∀ {rows : List (List α)}, (∀ (i : Nat) (row : List α), rows[i]? = some row → row.length = sz) → rows.flatten.length = rows.length * sz
 | [], _ => by simp
 | r :: rows, hl => by
  rw [List.flatten_cons, List.length_append, hl 0 r (by simp), flat_len (fun k row hk => hl (k + 1) row (by simpa using hk)), List.length_cons, Nat.succ_mul]
  omega
def BoxRel (S : Nat → Prop) (ρ : Key → Hd) (ok : Key → Prop) (w : World) (q : Key) : Box → Prop
 | .st ty cs => ∃ b vs, (ρ q).g = some b ∧ Blk w b ty (List.toArray vs) ∧ All2 (CRel S ρ ok w) cs vs
 | .sl ty sz rows => (ρ q).n = rows.length ∧ (ρ q).sz = sz ∧ rows.length ≤ (ρ q).cap ∧ rows.length ≤ 4611686018427387904 ∧ (∀ (i : Nat) (row : List D), rows[i]? = some row → row.length = sz) ∧
     ((ρ q).g = none ∧ rows = [] ∧ (ρ q).cap = 0 ∨
      ∃ b vs sp, (ρ q).g = some b ∧ (ρ q).A = some ⟨b, 0, none⟩ ∧ Blk w b ty (vs ++ sp).toArray ∧ All2 (CRel S ρ ok w) (rows.flatten.map .d) vs ∧ sp.length = ((ρ q).cap - rows.length) * sz)
 | .fz sz rows => Rd S w (.sl sz rows) (.slice (ρ q).A (ρ q).n (ρ q).cap)
 | .mp es ck => ∃ b, (ρ q).g = some b ∧ w.heap[b]? = some (.map es ck)
 | .ca ty sz rows => (ρ q).n = rows.length ∧ (ρ q).sz = sz ∧ rows.length ≤ (ρ q).cap ∧ rows.length ≤ 4611686018427387904 ∧ (∀ (i : Nat) (row : List C), rows[i]? = some row → row.length = sz) ∧
     ((ρ q).g = none ∧ rows = [] ∧ (ρ q).cap = 0 ∨
      ∃ b vs sp, (ρ q).g = some b ∧ (ρ q).A = some ⟨b, 0, none⟩ ∧ Blk w b ty (vs ++ sp).toArray ∧ All2 (CRel S ρ ok w) rows.flatten vs ∧ sp.length = ((ρ q).cap - rows.length) * sz)
def glB : List Nat := []
def Gl (X : Nat → Prop) (w : World) : Prop := ∀ b ∈ glB, ¬ X b ∧ b < w.heap.size ∧ ∃ m : Int, w.cell? ⟨b, 0, none⟩ = some (.int .i64 m)
structure VaOk (V X : Nat → Prop) (w : World) : Prop where
 lt : ∀ b, V b → b < w.heap.size ∧ ¬ X b
 gl : Gl X w
theorem Gl.none (X : Nat → Prop) (w : World) : Gl X w := fun b hb => by cases hb
theorem Gl.step {X X' : Nat → Prop} {w0 w : World} (h : Gl X w0) (hk : Keep (fun b => ¬ X b) w0 w) (hX : ∀ b, X' b → w0.heap.size ≤ b ∨ X b) : Gl X' w := fun b hb => by
 obtain ⟨h1, h2, m, h3⟩ := h b hb
 refine ⟨fun hx => ?_, Nat.lt_of_lt_of_le h2 hk.size, m, hk.cell h1 h3⟩
 rcases hX b hx with h4 | h4
 ·omega
 ·exact h1 h4
structure Rel (V X : Nat → Prop) (Z : Key → Hd) (w0 : World) (N : Nat) (ρ : Key → Hd) (ok : Key → Prop) (lt : Nat → Option AV) (lb : Key → Option Box) (a : Act) (w : World) : Prop where
 size : a.tmps.size = N
 defers : a.defers = []
 tm : ∀ t av, lt t = some av → t < N ∧ AVRel (CRel (Im V ρ lb) ρ ok w) av (a.tmps.getD t undef)
 bx : ∀ q box, lb q = some box → ok q ∧ BoxRel (Im V ρ lb) ρ ok w q box
 ap : ∀ q box q' box' b, lb q = some box → box.live = true → lb q' = some box' → box'.live = true → (ρ q).g = some b → (ρ q').g = some b → q = q'
 lo : ∀ q box b, lb q = some box → box.live = true → (ρ q).g = some b → b < w.heap.size ∧ (w0.heap.size ≤ b ∨ X b)
 fr : Keep (fun b => ¬ X b) w0 w
 va : VaOk V X w0
 zz : ∀ q : Key, q.2 = 0 → ok q ∧ ρ q = Z q
section
variable {S S' : Nat → Prop} {ρ ρ' : Key → Hd} {ok ok' : Key → Prop} {w w' : World}
theorem BoxRel.keep {q : Key} {box : Box} (h : BoxRel S ρ ok w q box) (hk : Keep S' w w') (hs : ∀ b, b < w.heap.size → S b → S' b) (hρ : ∀ q : Key, ok q → ρ' q = ρ q) (hn : ∀ q : Key, ok q → ok' q)
    (hq : ok q) (hg : box.live = true → ∀ b, (ρ q).g = some b → w'.heap[b]? = w.heap[b]?) : BoxRel S' ρ' ok' w' q box := by
 cases box with
 | st ty cs =>
  obtain ⟨b, vs, h1, h2, h3⟩ := h
  exact ⟨b, vs, by rw [hρ q hq]; exact h1, (hg rfl b h1).trans h2, h3.imp fun c v _ hc => hc.keep hk hs hρ hn⟩
 | sl ty sz rows =>
  obtain ⟨h1, h2, h3, h4, h5, h6⟩ := h
  simp only [BoxRel]
  rw [hρ q hq]
  refine ⟨h1, h2, h3, h4, h5, h6.imp id ?_⟩
  rintro ⟨b, vs, sp, g1, g2, g3, g4, g5⟩
  exact ⟨b, vs, sp, g1, g2, (hg rfl b g1).trans g3, g4.imp fun c v _ hc => hc.keep hk hs hρ hn, g5⟩
 | fz sz rows =>
  simp only [BoxRel] at h ⊢
  rw [hρ q hq]
  exact (Rd.mono h hs).keep hk
 | mp es ck =>
  obtain ⟨b, h1, h2⟩ := h
  exact ⟨b, by rw [hρ q hq]; exact h1, (hg rfl b h1).trans h2⟩
 | ca ty sz rows =>
  obtain ⟨h1, h2, h3, h4, h5, h6⟩ := h
  simp only [BoxRel]
  rw [hρ q hq]
  refine ⟨h1, h2, h3, h4, h5, h6.imp id ?_⟩
  rintro ⟨b, vs, sp, g1, g2, g3, g4, g5⟩
  exact ⟨b, vs, sp, g1, g2, (hg rfl b g1).trans g3, g4.imp fun c v _ hc => hc.keep hk hs hρ hn, g5⟩
theorem lens_rows {α : Type} {sz : Nat} {rows rows' : List (List α)} (h : rows'.map List.length = rows.map List.length) : rows'.length = rows.length ∧ ((∀ (i : Nat) (row : List α), rows[i]? = some row → row.length = sz) → ∀ (i : Nat) (row : List α), rows'[i]? = some row → row.length = sz) := by
 refine ⟨by have := congrArg List.length h; simpa using this, fun hl i row hi => ?_⟩
 have h1 := congrArg (fun l => l[i]?) h
 simp only [List.getElem?_map, hi, Option.map_some] at h1
 cases h2 : rows[i]? with
 | none => rw [h2] at h1; cases h1
 | some r => rw [h2] at h1; simp at h1; rw [h1]; exact hl i r h2
theorem BoxRel.caTo {q q' : Key} {ty : TypeId} {sz : Nat} {rows rows' : List (List C)} (h : BoxRel S ρ ok w q (.ca ty sz rows)) (e : ρ' q' = ρ q) (hl : rows'.map List.length = rows.map List.length)
    (hw : ∀ b, (ρ q).g = some b → w'.heap[b]? = w.heap[b]?) (hA : ∀ vs, All2 (CRel S ρ ok w) rows.flatten vs → All2 (CRel S' ρ' ok' w') rows'.flatten vs) : BoxRel S' ρ' ok' w' q' (.ca ty sz rows') := by
 obtain ⟨h1, h2, h3, h4, h5, h6⟩ := h
 obtain ⟨l1, l2⟩ := lens_rows (sz := sz) hl
 simp only [BoxRel]
 rw [e, l1]
 refine ⟨h1, h2, h3, h4, l2 h5, ?_⟩
 rcases h6 with ⟨y1, y2, y3⟩ | ⟨b, vs, sp, g1, g2, g3, g4, g5⟩
 ·exact .inl ⟨y1, List.length_eq_zero_iff.1 (by rw [l1, y2]; rfl), y3⟩
 ·exact .inr ⟨b, vs, sp, g1, g2, (hw b g1).trans g3, hA vs g4, g5⟩
theorem lens_map {rows : List (List C)} (f : C → C) : (rows.map (·.map f)).map List.length = rows.map List.length := by simp [Function.comp_def]
end
end Go.Proofs.YtjpdemikmdfonaaGreatDoor
namespace Go.Proofs.YtjpdemikmdfonaaGreatDoor
open Go Go.RowKit
set_option linter.unusedSimpArgs false
set_option linter.unusedVariables false
def semVal {α : Type} (P : Program) : Sem α → Option α
 | .pure a => some a
 | .program k => semVal P (k P)
 | .mark _ k => semVal P k
 | _ => none
def aggT (P : Program) (t : TypeId) : Option Bool :=
 match P.underlying t with
 | some (.struct _) => some true
 | some (.array ..) => some true
 | some _ => some false
 | none => none
def sizeT (P : Program) (t : TypeId) : Option Nat := (P.info? t).map (·.size)
def cellC : Value → Option C
 | .slice none 0 0 => some .zero
 | .map none => some .dead
 | v => if scal v then some (.d (.v v)) else none
def constAV : Value → Option AV
 | .agg cs => (cs.toList.mapM cellC).map (.one true)
 | v => (cellC v).map fun c => .one false [c]
def ev (lt : Nat → Option AV) : Operand → Option AV
 | .tmp t => lt t
 | .const v => constAV v
 | .func f => some (.one false [.d (.v (.func (.func f) #[] #[]))])
 | .global _ => none
def scV : C → Option Value
 | .d (.v x) => some x
 | _ => none
def conV : AV → Option Value
 | .one true cs => (cs.mapM scV).map fun (vs : List Value) => .agg vs.toArray
 | .one false [.d (.v x)] => some x
 | _ => none
def toD (lb : Key → Option Box) : C → Option (D × List Key)
 | .d d => some (d, [])
 | .zero => some (.sl 0 [], [])
 | .own q => match lb q with
  | some (.fz sz rows) => some (.sl sz rows, [])
  | some (.sl _ sz rows) => some (.sl sz rows, [q])
  | _ => none
 | _ => none
def toDs (lb : Key → Option Box) : List C → Option (List D × List Key)
 | [] => some ([], [])
 | c :: cs => match toD lb c, toDs lb cs with
  | some (d, k), some (ds, ks) => some (d :: ds, k ++ ks)
  | _, _ => none
def chunks {α : Type} (sz : Nat) : Nat → List α → List (List α)
 | 0, _ => []
 | n + 1, l => l.take sz :: chunks sz n (l.drop sz)
def allD : List C → Option (List D)
 | [] => some []
 | .d x :: cs => (allD cs).map (x :: ·)
 | .zero :: cs => (allD cs).map (.sl 0 [] :: ·)
 | _ :: _ => none
theorem allD_toDs (lb : Key → Option Box) : ∀ {cs : List C} {ds : List D}, allD cs = some ds → toDs lb cs = some (ds, [])
 | [], ds, h => by cases h; rfl
 | .d x :: cs, ds, h => by
  simp only [allD, Option.map_eq_some_iff] at h
  obtain ⟨r, h1, rfl⟩ := h
  simp only [toDs, toD, allD_toDs lb h1, List.nil_append]
 | .zero :: cs, ds, h => by
  simp only [allD, Option.map_eq_some_iff] at h
  obtain ⟨r, h1, rfl⟩ := h
  simp only [toDs, toD, allD_toDs lb h1, List.nil_append]
 | .own _ :: _, _, h => by cases h
 | .ptr .. :: _, _, h => by cases h
 | .eptr .. :: _, _, h => by cases h
 | .rptr .. :: _, _, h => by cases h
 | .arr .. :: _, _, h => by cases h
 | .mp _ :: _, _, h => by cases h
 | .fn .. :: _, _, h => by cases h
 | .dead :: _, _, h => by cases h
def toL (lb : Key → Option Box) : C → Option D
 | .arr q n z => match lb q with
  | some (.st _ cs) => if cs.length = n * z ∧ n ≤ 4611686018427387904 then (toDs lb cs).map fun (ds, _) => .sl z (chunks z n ds) else none
  | _ => none
 | c => (toD lb c).map (·.1)
def toLs (lb : Key → Option Box) : List C → Option (List D)
 | [] => some []
 | c :: cs => match toL lb c, toLs lb cs with
  | some d, some ds => some (d :: ds)
  | _, _ => none
def afill (place : Nat → Option (Nat × Nat)) : List C → List (Nat × List C) → Option (List C)
 | cells, [] => some cells
 | cells, (i, cs) :: rest => match place i with
  | none => none
  | some (off, size) => if cs.length = size ∧ off + cs.length ≤ cells.length then afill place (cells.take off ++ (cs ++ cells.drop (off + cs.length))) rest else none
def aBuilt (P : Program) (t : TypeId) (parts : List (Nat × List C)) : Option (List C) :=
 match P.info? t, P.underlying t with
 | some it, some (.array _ e) =>
  match it.zero, P.info? e with
  | some z, some ie => (z.cells.toList.mapM cellC).bind fun zs => afill (fun i => some (i * ie.size, ie.size)) zs parts
  | _, _ => none
 | some it, some (.struct fields) =>
  match it.zero, fields.toList.mapM (fun f => (P.info? f.type).map fun i => (f.offset, i.size)) with
  | some z, some places => (z.cells.toList.mapM cellC).bind fun zs => afill (places.toArray[·]?) zs parts
  | _, _ => none
 | _, _ => none
def cellsOfAV : AV → Option (List C)
 | .one true cs => some cs
 | .one false [c] => some [c]
 | _ => none
def evParts (lt : Nat → Option AV) : List (Nat × Operand) → Option (List (Nat × List C))
 | [] => some []
 | (i, x) :: rest => match (ev lt x).bind cellsOfAV, evParts lt rest with
  | some cs, some r => some ((i, cs) :: r)
  | _, _ => none
def rowsOf (lb : Key → Option Box) (q : Key) : Option (Nat × List (List D)) :=
 match lb q with
 | some (.sl _ sz rows) => some (sz, rows)
 | some (.fz sz rows) => some (sz, rows)
 | _ => none
def behind (lb : Key → Option Box) : C → Option (List C × Nat)
 | .ptr q off => match lb q with
  | some (.st _ cs) => some (cs, off)
  | _ => none
 | .eptr q i off => match lb q with
  | some (.sl _ _ rows) => (rows[i]?).map fun row => (row.map .d, off)
  | some (.ca _ _ rows) => (rows[i]?).map fun row => (row, off)
  | _ => none
 | .rptr row off => some (row.map .d, off)
 | _ => none
def isPtr : C → Bool
 | .ptr .. => true
 | .eptr .. => true
 | .rptr .. => true
 | _ => false
def addOff (n : Nat) : C → Option C
 | .ptr q off => some (.ptr q (off + n))
 | .eptr q i off => some (.eptr q i (off + n))
 | .rptr row off => some (.rptr row (off + n))
 | _ => none
structure Eff where
 av : AV
 up : List (Key × Option Box) := []
 needs : List Key := []
inductive Arg where
 | val (b : Bool) (cs : List C)
 | io (ty : TypeId) (cs : List C)
structure ARes where
 vals : List (Bool × List C)
 ios : List (List C) := []
 bx : List (Key × Box) := []
 kp : Bool := false
abbrev CallF := FuncId → List Arg → List (Key × Box) → Option ARes
def capKeys : Cap → List Key
 | .ptr q _ => [q]
 | _ => []
def capRen (f : Key → Key) : Cap → Cap
 | .ptr q o => .ptr (f q) o
 | c => c
def Cap.toC : Cap → C
 | .d x => .d x
 | .ptr q o => .ptr q o
 | .rptr row o => .rptr row o
def keysC : C → List Key
 | .own q => [q]
 | .arr q _ _ => [q]
 | .mp q => [q]
 | .fn _ caps => caps.flatMap capKeys
 | .ptr q _ => [q]
 | .eptr q _ _ => [q]
 | _ => []
def renC (f : Key → Key) : C → C
 | .own q => .own (f q)
 | .arr q n z => .arr (f q) n z
 | .mp q => .mp (f q)
 | .fn g caps => .fn g (caps.map (capRen f))
 | .ptr q o => .ptr (f q) o
 | .eptr q i o => .eptr (f q) i o
 | c => c
def renK (key : Nat → Key) : List (Key × Box) → Nat → Key → Key
 | [], _, q => q
 | (k, _) :: rest, j, q => if q = k then key j else renK key rest (j + 1) q
def renBx (f : Key → Key) : Box → Box
 | .st ty cs => .st ty (cs.map (renC f))
 | .ca ty sz rows => .ca ty sz (rows.map (·.map (renC f)))
 | b => b
def takeBx (f : Key → Key) (key : Nat → Key) : List (Key × Box) → Nat → List (Key × Option Box)
 | [], _ => []
 | (_, b) :: rest, j => (key j, some (renBx f b)) :: takeBx f key rest (j + 1)
def resAV (f : Key → Key) : List (Bool × List C) → AV
 | [(b, cs)] => .one b (cs.map (renC f))
 | xs => .tup (xs.map fun (b, cs) => (b, cs.map (renC f)))
def scalC : C → Bool
 | .d (.v _) => true
 | .zero => true
 | _ => false
def ARes.scalars (r : ARes) : Bool := r.bx.isEmpty && r.vals.all fun (_, cs) => cs.all scalC
def lendCap (lb : Key → Option Box) : Cap → Option Cap
 | .ptr q o => match lb q with
  | some (.st _ cs) => (toLs lb cs).map fun ds => .rptr ds o
  | _ => none
 | c => some c
def argVal (lb : Key → Option Box) (lend : Bool) : C → Option (C × List Key)
 | .d d => some (.d d, [])
 | .zero => some (.zero, [])
 | .rptr row o => some (.rptr row o, [])
 | .own q => (toD lb (.own q)).map fun (d, ks) => (.d d, if lend then [] else ks)
 | .ptr q o => if lend then match lb q with
  | some (.st _ cs) => (toLs lb cs).map fun ds => (.rptr ds o, [])
  | _ => none else none
 | .eptr q i o => if lend then match lb q with
  | some (.sl _ _ rows) => (rows[i]?).map fun row => (.rptr row o, [])
  | _ => none else none
 | .dead => some (.dead, [])
 | .fn g caps => if lend then (caps.mapM (lendCap lb)).map fun cs => (.fn g cs, []) else if caps.all (fun c => (capKeys c).isEmpty) then some (.fn g caps, []) else none
 | .arr .. => none
 | .mp _ => none
def argVals (lb : Key → Option Box) (lend : Bool) : List C → Option (List C × List Key)
 | [] => some ([], [])
 | c :: cs => match argVal lb lend c, argVals lb lend cs with
  | some (d, k), some (ds, ks) => some (d :: ds, k ++ ks)
  | _, _ => none
def argsOf (lt : Nat → Option AV) (lb : Key → Option Box) (lend : Bool) : List Operand → Option (List (Bool × List C) × List Key)
 | [] => some ([], [])
 | x :: xs => match ev lt x, argsOf lt lb lend xs with
  | some (.one b cs), some (xs', ks) => match argVals lb lend cs with
   | some (cs', k) => some ((b, cs') :: xs', k ++ ks)
   | none => none
  | _, _ => none
def calleeOf (lt : Nat → Option AV) (f : Operand) : Option (FuncId × List C) :=
 match ev lt f with
 | some (.one false [.d (.v (.func (.func f) a b))]) => if a.isEmpty && b.isEmpty then some (f, []) else none
 | some (.one false [.fn g caps]) => some (g, caps.map Cap.toC)
 | _ => none
def bodied (P : Program) (f : FuncId) : Bool :=
 match P.funcs[f]? with
 | some fn => fn.body.isSome && !(fn.name == "runtime.NumGoroutine")
 | none => false
def intV : Option AV → Option Int
 | some (.one false [.d (.v (.int _ n))]) => some n
 | _ => none
def lenC (lb : Key → Option Box) : C → Option Nat
 | .zero => some 0
 | .d (.sl _ rows) => some rows.length
 | .own q => match lb q with
  | some (.ca _ _ rows) => some rows.length
  | _ => (rowsOf lb q).map (·.2.length)
 | .arr _ n _ => some n
 | _ => none
def lookRows (lb : Key → Option Box) (sz : Nat) : C → Option (List (List D))
 | .zero => some []
 | .d (.sl s rows) => if s = sz || rows.isEmpty then some rows else none
 | .own q => match rowsOf lb q with
  | some (s, rows) => if s = sz || rows.isEmpty then some rows else none
  | none => none
 | .arr q n z => match lb q with
  | some (.st _ cs) => if z = sz ∧ n * z ≤ cs.length then (allD (cs.take (n * z))).map (chunks z n) else none
  | _ => none
 | _ => none
def slot1 : AV → Option C
 | .one false [c] => some c
 | _ => none
def shut (cur : Nat) (lb : Key → Option Box) (ks : List Key) : List (Key × Option Box) := (ks.filter (·.2 == cur)).filterMap fun k => match lb k with
 | some (.sl _ sz rows) => some (k, some (.fz sz rows))
 | _ => none
def plainOp : Op → Bool
 | .binOp .. => true
 | .unOp .. => true
 | .convert .. => true
 | .index .. => true
 | .slice .. => true
 | .call { callee := .builtin b, .. } => match b with
  | .len => true
  | .min => true
  | .max => true
  | _ => false
 | _ => false
def effPlain (P : Program) (lt : Nat → Option AV) (o : Oper) : Option Eff :=
 if plainOp o.op && (o.op.operands.toList.all fun x => ((ev lt x).bind conV).isSome) then
  match semVal P (execOp (fun x => ((ev lt x).bind conV).getD undef) o) with
  | some (.value v) => (constAV v).map fun av => { av }
  | _ => none
 else none
def ioCells (lb : Key → Option Box) (n : Nat) : List C → Option (List C × List (Key × Key × Box) × Nat)
 | [] => some ([], [], n)
 | c :: cs => match c with
  | .own q => match lb q with
   | some (.fz sz rows) => (ioCells lb n cs).map fun (l, b, m) => (.d (.sl sz rows) :: l, b, m)
   | some (.sl ty sz rows) => (ioCells lb (n + 1) cs).map fun (l, b, m) => (.own (1000 + n, 0) :: l, (q, (1000 + n, 0), .sl ty sz rows) :: b, m)
   | _ => none
  | .ptr .. => none
  | .eptr .. => none
  | .arr .. => none
  | .mp _ => none
  | .fn .. => none
  | c => (ioCells lb n cs).map fun (l, b, m) => (c :: l, b, m)
def ioArgs (lt : Nat → Option AV) (lb : Key → Option Box) : Nat → List Operand → Option (List Arg × List Key × List (Key × TypeId) × List (Key × Key × Box))
 | _, [] => some ([], [], [], [])
 | n, x :: xs => match ev lt x with
  | some (.one false [.ptr q 0]) => match lb q with
   | some (.st ty cs) => match ioCells lb n cs with
    | some (l, b, m) => (ioArgs lt lb m xs).map fun (as', ks, qs, bs) => (.io ty l :: as', ks, (q, ty) :: qs, b ++ bs)
    | none => none
   | _ => none
  | some (.one b cs) => match argVals lb false cs with
   | some (cs', k) => (ioArgs lt lb n xs).map fun (as', ks, qs, bs) => (.val b cs' :: as', k ++ ks, qs, bs)
   | none => none
  | _ => none
def putIo (f : Key → Key) : List (Key × TypeId) → List (List C) → List (Key × Option Box)
 | (q, ty) :: qs, cs :: r => (q, some (.st ty (cs.map (renC f)))) :: putIo f qs r
 | _, _ => []
def nodup : List Key → Bool
 | [] => true
 | k :: ks => !ks.contains k && nodup ks
def effBuildSlice (P : Program) (cur : Nat) (key : Nat → Key) (t : TypeId) (len : Nat) (parts : List (Nat × Operand)) (lt : Nat → Option AV) (lb : Key → Option Box) : Option Eff :=
 match P.underlying t with
 | some (.slice e) => match P.info? e with
  | some ie => match ie.zero with
   | some z => if len * ie.size ≤ 16777216 ∧ z.cells.size = ie.size ∧ 0 < ie.size then
       match z.cells.toList.mapM cellC, evParts lt parts with
       | some zs, some ps => match afill (fun i => some (i * ie.size, ie.size)) (List.replicate len zs).flatten ps with
        | some cs => match toDs lb cs with
         | some (ds, ks) => some { av := .one false [.own (key 0)], up := (key 0, some (.sl e ie.size (chunks ie.size len ds))) :: shut cur lb ks, needs := ks.filter (·.2 != cur) }
         | none => some { av := .one false [.own (key 0)], up := [(key 0, some (.ca e ie.size (chunks ie.size len cs)))] }
        | none => none
       | _, _ => none
    else none
   | none => none
  | none => none
 | _ => none
def effLoad (P : Program) (t : TypeId) (x : Operand) (lt : Nat → Option AV) (lb : Key → Option Box) : Option Eff :=
 match ((ev lt x).bind slot1).bind (behind lb), aggT P t, sizeT P t with
 | some (cs, off), some true, some sz => if off + sz ≤ cs.length then some { av := .one true ((cs.drop off).take sz) } else none
 | some (cs, off), some false, some _ => (cs[off]?).map fun c => { av := .one false [c] }
 | _, _, _ => none
def effStore (P : Program) (cur : Nat) (t : TypeId) (x y : Operand) (lt : Nat → Option AV) (lb : Key → Option Box) : Option Eff :=
 match (ev lt x).bind slot1, (ev lt y).bind cellsOfAV, sizeT P t with
 | some (.ptr q off), some vs, some sz => match lb q with
  | some (.st ty cs) => if vs.length = sz ∧ off + sz ≤ cs.length then some { av := .un, up := [(q, some (.st ty (cs.take off ++ (vs ++ cs.drop (off + sz)))))] } else none
  | _ => none
 | some (.eptr q j off), some vs, some sz => match lb q with
  | some (.sl ty s rows) => match rows[j]?, toDs lb vs with
   | some row, some (ds, ks) => if vs.length = sz ∧ off + sz ≤ row.length ∧ !ks.contains q then some { av := .un, up := (q, some (.sl ty s (rows.set j (row.take off ++ (ds ++ row.drop (off + sz)))))) :: shut cur lb ks, needs := ks.filter (·.2 != cur) } else none
   | _, _ => none
  | _ => none
 | _, _, _ => none
def effIndexAddr (P : Program) (t : TypeId) (x ix : Operand) (lt : Nat → Option AV) (lb : Key → Option Box) : Option Eff :=
 match P.underlying t, (ev lt x).bind slot1, intV (ev lt ix) with
 | some (.slice e), some (.d (.sl sz rows)), some i => if sizeT P e = some sz ∧ 0 ≤ i then (rows[i.toNat]?).map fun row => { av := .one false [.rptr row 0] } else none
 | some (.slice e), some (.own q), some i => match lb q with
  | some (.sl _ sz rows) => if sizeT P e = some sz ∧ 0 ≤ i ∧ i.toNat < rows.length then some { av := .one false [.eptr q i.toNat 0] } else none
  | some (.fz sz rows) => if sizeT P e = some sz ∧ 0 ≤ i then (rows[i.toNat]?).map fun row => { av := .one false [.rptr row 0] } else none
  | some (.ca _ sz rows) => if sizeT P e = some sz ∧ 0 ≤ i ∧ i.toNat < rows.length then some { av := .one false [.eptr q i.toNat 0] } else none
  | _ => none
 | some (.slice e), some (.arr q n z), some i => match sizeT P e with
  | some sz => if sz = z ∧ 0 ≤ i ∧ i < n then some { av := .one false [.ptr q (i.toNat * sz)] } else none
  | none => none
 | some (.array n e), some c, some i => match sizeT P e with
  | some sz => if 0 ≤ i ∧ i < n then (addOff (i.toNat * sz) c).map fun c => { av := .one false [c] } else none
  | none => none
 | _, _, _ => none
def bound (lt : Nat → Option AV) (dflt : Int) : Option Operand → Option Int
 | some l => intV (ev lt l)
 | none => some dflt
def effSlice (P : Program) (t : TypeId) (x : Operand) (lo hi mx : Option Operand) (o : Oper) (lt : Nat → Option AV) (lb : Key → Option Box) : Option Eff :=
 match P.underlying t with
 | some (.slice e) => match (ev lt x).bind slot1, mx with
  | some (.d (.sl sz rows)), none => match bound lt 0 lo, bound lt rows.length hi with
   | some l, some h => if sizeT P e = some sz ∧ 0 ≤ l ∧ l ≤ h ∧ h ≤ rows.length then some { av := .one false [.d (.sl sz ((rows.drop l.toNat).take (h.toNat - l.toNat)))] } else none
   | _, _ => none
  | _, _ => none
 | some .string => effPlain P lt o
 | some (.array n e) => match (ev lt x).bind slot1, lo, mx with
  | some (.ptr q 0), none, none => match bound lt (n : Int) hi, sizeT P e with
   | some h, some sz => if 0 ≤ h ∧ h ≤ n then some { av := .one false [.arr q h.toNat sz] } else none
   | _, _ => none
  | _, _, _ => none
 | _ => none
def effSliceO (P : Program) (key : Nat → Key) (t : TypeId) (x : Operand) (lo hi mx : Option Operand) (lt : Nat → Option AV) (lb : Key → Option Box) : Option Eff :=
 match P.underlying t, (ev lt x).bind slot1, mx with
 | some (.slice e), some (.own q), none => match bound lt 0 lo, lb q, sizeT P e with
  | some 0, some (.sl ty sz rows), some s => match bound lt rows.length hi with
   | some h => if s = sz ∧ 0 ≤ h ∧ h ≤ rows.length then (if h = rows.length then some { av := .one false [.own q] } else some { av := .one false [.own (key 0)], up := [(key 0, some (.sl ty sz (rows.take h.toNat))), (q, none)] }) else none
   | none => none
  | _, _, _ => none
 | _, _, _ => none
def isSliceT (P : Program) (t : TypeId) : Bool := match P.underlying t with
 | some (.slice _) => true
 | _ => false
def effMakeSlice (P : Program) (key : Nat → Key) (t : TypeId) (l c : Operand) (lt : Nat → Option AV) : Option Eff :=
 match P.underlying t, intV (ev lt l), intV (ev lt c) with
 | some (.slice e), some n, some m => match P.info? e with
  | some ie => match ie.zero with
   | some z => if n ≤ m ∧ 0 ≤ n ∧ m * ie.bytes ≤ 140737488355328 ∧ m ≤ 4611686018427387904 ∧ z.cells.size = ie.size ∧ 0 < ie.size then
       if isSliceT P e then match z.cells.toList.mapM cellC with
        | some zs => if 0 < n ∧ n = m then some { av := .one false [.arr (key 0) n.toNat ie.size], up := [(key 0, some (.st e (List.replicate n.toNat zs).flatten))] } else none
        | none => none
       else match (z.cells.toList.mapM cellC).bind (toDs fun _ => none) with
       | some (row, _) => some { av := .one false [.own (key 0)], up := [(key 0, some (.sl e ie.size (List.replicate n.toNat row)))] }
       | none => none
    else none
   | none => none
  | none => none
 | _, _, _ => none
def effAppend0 (P : Program) (key : Nat → Key) (t tx : TypeId) (s x : Operand) (lt : Nat → Option AV) (lb : Key → Option Box) : Option Eff :=
 match P.underlying t, P.underlying tx, (ev lt s).bind slot1, (ev lt x).bind slot1 with
 | some (.slice e), some (.slice _), some cs, some cx => match P.info? e with
  | some ie => match ie.zero with
   | some z => if z.cells.size = ie.size ∧ 0 < ie.size then
    match lookRows lb ie.size cx with
    | some new =>
     match cs with
     | .zero => if new.length * ie.bytes ≤ 140737488355328 ∧ new.length ≤ 4611686018427387904 then some { av := .one false [.own (key 0)], up := [(key 0, some (.sl e ie.size new))] } else none
     | .own q => match lb q with
      | some (.sl e' sz rows) => if e' = e ∧ sz = ie.size ∧ (rows.length + new.length) * ie.bytes ≤ 140737488355328 ∧ rows.length + new.length ≤ 4611686018427387904 then
          some { av := .one false [.own (key 0)], up := [(key 0, some (.sl e ie.size (rows ++ new))), (q, none)] } else none
      | _ => none
     | _ => none
    | none => none
    else none
   | none => none
  | none => none
 | _, _, _, _ => none
def effAppendC (P : Program) (key : Nat → Key) (t tx : TypeId) (s x : Operand) (lt : Nat → Option AV) (lb : Key → Option Box) : Option Eff :=
 match P.underlying t, P.underlying tx, (ev lt s).bind slot1, (ev lt x).bind slot1 with
 | some (.slice e), some (.slice _), some cs, some (.own qx) => match P.info? e, lb qx with
  | some ie, some (.ca _ szx new) => match ie.zero with
   | some z => if z.cells.size = ie.size ∧ 0 < ie.size ∧ szx = ie.size then
       match cs with
       | .zero => if new.length * ie.bytes ≤ 140737488355328 ∧ new.length ≤ 4611686018427387904 then some { av := .one false [.own (key 0)], up := [(key 0, some (.ca e ie.size new))] } else none
       | .own q => match lb q with
        | some (.ca e' sz rows) => if e' = e ∧ sz = ie.size ∧ (rows.length + new.length) * ie.bytes ≤ 140737488355328 ∧ rows.length + new.length ≤ 4611686018427387904 then
            some { av := .one false [.own (key 0)], up := [(key 0, some (.ca e ie.size (rows ++ new))), (q, none)] } else none
        | _ => none
       | _ => none
    else none
   | none => none
  | _, _ => none
 | _, _, _, _ => none
def byteRows (b : ByteArray) : List (List D) := (byteCells b).map fun v => [.v v]
def effAppendS (P : Program) (key : Nat → Key) (t tx : TypeId) (s x : Operand) (lt : Nat → Option AV) (lb : Key → Option Box) : Option Eff :=
 match P.underlying t, P.underlying tx, (ev lt s).bind slot1, (ev lt x).bind conV with
 | some (.slice e), some .string, some cs, some (.string b) => match P.info? e with
  | some ie => match ie.zero with
   | some z => if z.cells.size = ie.size ∧ ie.size = 1 then
       match cs with
       | .zero => if b.size * ie.bytes ≤ 140737488355328 ∧ b.size ≤ 4611686018427387904 then some { av := .one false [.own (key 0)], up := [(key 0, some (.sl e 1 (byteRows b)))] } else none
       | .own q => match lb q with
        | some (.sl e' sz rows) => if e' = e ∧ sz = 1 ∧ (rows.length + b.size) * ie.bytes ≤ 140737488355328 ∧ rows.length + b.size ≤ 4611686018427387904 then
            some { av := .one false [.own (key 0)], up := [(key 0, some (.sl e 1 (rows ++ byteRows b))), (q, none)] } else none
        | _ => none
       | _ => none
    else none
   | none => none
  | none => none
 | _, _, _, _ => none
def effAppend (P : Program) (key : Nat → Key) (t tx : TypeId) (s x : Operand) (lt : Nat → Option AV) (lb : Key → Option Box) : Option Eff :=
 match effAppend0 P key t tx s x lt lb with
 | some e => some e
 | none => match effAppendC P key t tx s x lt lb with
  | some e => some e
  | none => effAppendS P key t tx s x lt lb
def effClear (P : Program) (t : TypeId) (x : Operand) (lt : Nat → Option AV) (lb : Key → Option Box) : Option Eff :=
 match P.underlying t, (ev lt x).bind slot1 with
 | some (.slice e), some (.own q) => match lb q, P.info? e with
  | some (.sl ty sz rows), some ie => match ie.zero with
   | some z => if z.cells.size = ie.size ∧ ie.size = sz ∧ 0 < sz ∧ 0 < rows.length then match (z.cells.toList.mapM cellC).bind (toDs fun _ => none) with
    | some (row, _) => some { av := .un, up := [(q, some (.sl ty sz (List.replicate rows.length row)))] }
    | none => none
    else none
   | none => none
  | _, _ => none
 | _, _ => none
def rowNums : List (List D) → Option (List Int)
 | [] => some []
 | [.v (.int .u8 n)] :: r => (rowNums r).map (n :: ·)
 | _ => none
def effSliceData (P : Program) (t : TypeId) (x : Operand) (lt : Nat → Option AV) (lb : Key → Option Box) : Option Eff :=
 match P.underlying t, (ev lt x).bind slot1 with
 | some (.slice _), some (.own q) => match lb q with
  | some (.sl _ _ rows) => if 0 < rows.length then some { av := .one false [.eptr q 0 0] } else none
  | _ => none
 | _, _ => none
def effUnsafeStr (P : Program) (pt : TypeId) (p n : Operand) (lt : Nat → Option AV) (lb : Key → Option Box) : Option Eff :=
 match P.underlying pt, (ev lt p).bind slot1, (ev lt n).bind conV with
 | some (.pointer e), some (.eptr q 0 0), some (.int .i64 k) => match lb q with
  | some (.sl ty sz rows) => if sz = 1 ∧ ty = e ∧ P.cellsOf e = 1 ∧ 0 < k ∧ k.toNat ≤ rows.length then match rowNums (rows.take k.toNat) with
      | some l => if (l.all fun n => decide (0 ≤ n ∧ n < 256)) = true then some { av := .one false [.d (.v (.string ⟨(l.map fun n => UInt8.ofNat n.toNat).toArray⟩))], up := [(q, none)] } else none
      | none => none
      else none
  | _ => none
 | _, _, _ => none
def keysBx : Box → List Key
 | .st _ cs => cs.flatMap keysC
 | .ca _ _ rows => rows.flatten.flatMap keysC
 | _ => []
def ARes.closed (r : ARes) : Bool := (r.bx.all fun (_, b) => (keysBx b).all fun k => (r.bx.map (·.1)).contains k) && (r.vals.all fun (_, cs) => cs.all fun c => (keysC c).all fun k => (r.bx.map (·.1)).contains k) && r.ios.all fun cs => cs.all fun c => (keysC c).all fun k => (r.bx.map (·.1)).contains k
def Box.isSl : Box → Bool
 | .sl .. => true
 | _ => false
def Box.okRes : Box → Bool
 | .sl .. => true
 | .st .. => true
 | .ca .. => true
 | .mp .. => true
 | _ => false
def effVal (call : CallF) (lend : Bool) (cur : Nat) (key : Nat → Key) (g : FuncId) (xs : List (Bool × List C)) (ks : List Key) (lb : Key → Option Box) : Option Eff :=
 match call g (xs.map fun (b, cs) => .val b cs) [] with
 | some r => if r.ios.length = 0 ∧ r.bx.length ≤ 64 ∧ (lend = false ∨ r.scalars = true) ∧ r.closed = true ∧ nodup (r.bx.map (·.1)) = true ∧ (r.bx.all fun x => x.2.okRes) = true then some { av := resAV (renK key r.bx 0) r.vals, up := takeBx (renK key r.bx 0) key r.bx 0 ++ shut cur lb ks, needs := ks.filter (·.2 != cur) } else none
 | none => none
def ioBx : Nat → List Arg → List (List C) → List (Key × Box)
 | i, .val _ _ :: r, ios => ioBx (i + 1) r ios
 | i, .io ty _ :: r, cs :: ios => ((i, 0), .st ty cs) :: ioBx (i + 1) r ios
 | _, _, _ => []
def isIo : Arg → Bool
 | .io .. => true
 | .val .. => false
def zipIo : Nat → List Arg → List (Key × TypeId) → List (Key × Key)
 | i, .val _ _ :: r, qs => zipIo (i + 1) r qs
 | i, .io _ _ :: r, (q, _) :: qs => ((i, 0), q) :: zipIo (i + 1) r qs
 | _, _, _ => []
def dictOf (xs : List Arg) (qs : List (Key × TypeId)) (bs : List (Key × Key × Box)) : List (Key × Key) := zipIo 0 xs qs ++ bs.map fun x => (x.2.1, x.1)
def argBx : Nat → List Arg → List (Key × Box)
 | _, [] => []
 | i, .val _ _ :: r => argBx (i + 1) r
 | i, .io ty cs :: r => ((i, 0), .st ty cs) :: argBx (i + 1) r
def bk : List (Key × Key × Box) → Key → Key
 | [], κ => κ
 | x :: bs, κ => if κ = x.2.1 then x.1 else bk bs κ
def sameOwn (bs : List (Key × Key × Box)) : List C → List C → Bool
 | [], [] => true
 | .own q :: cs, .own κ :: cs' => decide (bk bs κ = q) && (bs.map (·.2.1)).contains κ && sameOwn bs cs cs'
 | _, _ => false
def keptIo (bs : List (Key × Key × Box)) (lb : Key → Option Box) : List (Key × TypeId) → List (List C) → Bool
 | [], [] => true
 | (q, ty) :: qs, cs' :: ios => (match lb q with
  | some (.st ty' cs) => decide (ty' = ty) && sameOwn bs cs cs'
  | _ => false) && keptIo bs lb qs ios
 | _, _ => false
def keptOk (ios : List (List C)) (bx : List (Key × Box)) (qs : List (Key × TypeId)) (bs : List (Key × Key × Box)) (lb : Key → Option Box) : Bool :=
 keptIo bs lb qs ios && (decide (bx.map (·.1) = bs.map (·.2.1)) && bx.all fun x => x.2.isSl)
def zipK : List (Key × Key × Box) → List (Key × Box) → List (Key × Option Box)
 | x :: bs, y :: bx => (x.1, some y.2) :: zipK bs bx
 | _, _ => []
def effIo (call : CallF) (cur : Nat) (key : Nat → Key) (g : FuncId) (xs : List Arg) (ks : List Key) (qs : List (Key × TypeId)) (bs : List (Key × Key × Box)) (lb : Key → Option Box) : Option Eff :=
 if nodup ((dictOf xs qs bs).map (·.1)) = true ∧ nodup ((dictOf xs qs bs).map (·.2)) = true ∧ (ks.all fun k => !(bs.map (·.1)).contains k) = true ∧ ((dictOf xs qs bs).all fun x => x.1.2 == 0) = true then match call g xs (bs.map (·.2)) with
  | some r => if r.ios.length = qs.length ∧ r.bx.length ≤ 64 ∧ r.closed = true ∧ nodup ((ioBx 0 xs r.ios ++ r.bx).map (·.1)) = true ∧ (r.bx.all fun x => x.2.okRes) = true then
      match r.kp with
      | false => some { av := resAV (renK key r.bx 0) r.vals, up := putIo (renK key r.bx 0) qs r.ios ++ (takeBx (renK key r.bx 0) key r.bx 0 ++ (bs.map (fun x => (x.1, none)) ++ shut cur lb ks)), needs := ks.filter (·.2 != cur) }
      | true => if keptOk r.ios r.bx qs bs lb = true then some { av := resAV (renK key r.bx 0) r.vals, up := zipK bs r.bx ++ shut cur lb ks, needs := ks.filter (·.2 != cur) } else none
   else none
  | none => none
 else none
def lkD : List (Key × Key) → Key → Option Key
 | [], _ => none
 | (a, b) :: r, q => if q = a then some b else lkD r q
def addK (ks : List Key) (k : Key) : List Key := if ks.contains k then ks else ks ++ [k]
def reachK (lb : Key → Option Box) : Nat → List Key → List Key
 | 0, ks => ks
 | n + 1, ks => reachK lb n ((ks.flatMap fun k => match lb k with
  | some b => keysBx b
  | none => []).foldl addK ks)
def idxK : List Key → Nat → Key → Key
 | [], _, q => q
 | k :: r, n, q => if q = k then (n, 0) else idxK r (n + 1) q
def gBs (lb : Key → Option Box) (φ : Key → Key) : Nat → List Key → Option (List (Key × Key × Box))
 | _, [] => some []
 | n, q :: ks => match lb q, gBs lb φ (n + 1) ks with
  | some b, some r => if b.okRes then some ((q, (n, 0), renBx φ b) :: r) else none
  | _, _ => none
def gDict (bs : List (Key × Key × Box)) : List (Key × Key) := bs.map fun x => (x.2.1, x.1)
def gBack (bs : List (Key × Key × Box)) (key : Nat → Key) (bx : List (Key × Box)) (κ : Key) : Key := match lkD (gDict bs) κ with
 | some q => q
 | none => renK key bx 0 κ
def gUps (D : List (Key × Key)) (key : Nat → Key) (f : Key → Key) : List (Key × Box) → Nat → List (Key × Option Box)
 | [], _ => []
 | (κ, b) :: r, j => ((match lkD D κ with
  | some q => q
  | none => key j), some (renBx f b)) :: gUps D key f r (j + 1)
def argsG (lt : Nat → Option AV) : List Operand → Option (List (Bool × List C))
 | [] => some []
 | x :: r => match ev lt x, argsG lt r with
  | some (.one b cs), some l => some ((b, cs) :: l)
  | _, _ => none
def effG (call : CallF) (key : Nat → Key) (g : FuncId) (xs : List (Bool × List C)) (lb : Key → Option Box) : Option Eff :=
 let ks := reachK lb 8 ((xs.flatMap fun x => x.2.flatMap keysC).foldl addK [])
 let φ := idxK ks 0
 match gBs lb φ 0 ks with
 | some bs => if nodup (bs.map (·.2.1)) = true ∧ nodup (bs.map (·.1)) = true ∧ (bs.all fun x => x.2.1.2 == 0 && φ x.1 == x.2.1) = true ∧ (xs.all fun x => x.2.all fun c => (keysC c).all fun k => (bs.map (·.1)).contains k) = true ∧
     (bs.all fun x => match lb x.1 with
      | some b => (keysBx b).all fun k => (bs.map (·.1)).contains k
      | none => false) = true then
     match call g (xs.map fun x => .val x.1 (x.2.map (renC φ))) (bs.map (·.2)) with
     | some r => if r.ios.length = 0 ∧ r.bx.length ≤ 64 ∧ r.closed = true ∧ nodup (r.bx.map (·.1)) = true ∧ (r.bx.all fun x => x.2.okRes) = true then
         some { av := resAV (gBack bs key r.bx) r.vals, up := gUps (gDict bs) key (gBack bs key r.bx) r.bx 0 ++ bs.map fun x => (x.1, none) }
      else none
     | none => none
  else none
 | none => none
def effCall0 (P : Program) (call : CallF) (lend : FuncId → Bool) (cur : Nat) (key : Nat → Key) (f : Operand) (args : List Operand) (lt : Nat → Option AV) (lb : Key → Option Box) : Option Eff :=
 match calleeOf lt f with
 | some (g, caps) => if bodied P g then match argsOf lt lb (lend g || !caps.isEmpty) args with
  | some (xs, ks) => match argVals lb true caps with
   | some (cs, _) => effVal call (lend g || !caps.isEmpty) cur key g (xs ++ cs.map fun c => (false, [c])) ks lb
   | none => none
  | none => if caps.isEmpty then match ioArgs lt lb 0 args with
   | some (xs, ks, qs, bs) => effIo call cur key g xs ks qs bs lb
   | none => none
   else none
  else none
 | none => none
def vEq : Value → Value → Bool
 | .bool a, .bool b => a == b
 | .int k a, .int l b => decide (k = l) && decide (a = b)
 | .string a, .string b => decide (a.data.toList = b.data.toList)
 | .pointer none, .pointer none => true
 | .nilFunc, .nilFunc => true
 | _, _ => false
theorem vEq_ok : ∀ {a b : Value}, vEq a b = true → a = b := by
 intro a b h
 unfold vEq at h
 split at h
 ·rw [beq_iff_eq.1 h]
 ·simp only [Bool.and_eq_true, decide_eq_true_eq] at h; rw [h.1, h.2]
 ·rename_i a b
  have h1 := of_decide_eq_true h
  obtain ⟨⟨a⟩⟩ := a
  obtain ⟨⟨b⟩⟩ := b
  simp at h1
  rw [h1]
 ·rfl
 ·rfl
 ·cases h
mutual
def dEq : D → D → Bool
 | .v x, .v y => vEq x y
 | .sl n r, .sl m s => decide (n = m) && rowsEq r s
 | _, _ => false
def rowsEq : List (List D) → List (List D) → Bool
 | [], [] => true
 | a :: r, b :: s => rowEq a b && rowsEq r s
 | _, _ => false
def rowEq : List D → List D → Bool
 | [], [] => true
 | a :: r, b :: s => dEq a b && rowEq r s
 | _, _ => false
end
mutual
theorem dEq_ok : ∀ (a b : D), dEq a b = true → a = b
 | .v x, .v y, h => by
  have h' : vEq x y = true := by simpa [dEq] using h
  rw [vEq_ok h']
 | .sl n r, .sl m s, h => by
  simp only [dEq, Bool.and_eq_true, decide_eq_true_eq] at h
  rw [h.1, rowsEq_ok r s h.2]
 | .v _, .sl .., h => by simp [dEq] at h
 | .sl .., .v _, h => by simp [dEq] at h
theorem rowsEq_ok : ∀ (a b : List (List D)), rowsEq a b = true → a = b
 | [], [], _ => rfl
 | a :: r, b :: s, h => by
  simp only [rowsEq, Bool.and_eq_true] at h
  rw [rowEq_ok a b h.1, rowsEq_ok r s h.2]
 | [], _ :: _, h => by simp [rowsEq] at h
 | _ :: _, [], h => by simp [rowsEq] at h
theorem rowEq_ok : ∀ (a b : List D), rowEq a b = true → a = b
 | [], [], _ => rfl
 | a :: r, b :: s, h => by
  simp only [rowEq, Bool.and_eq_true] at h
  rw [dEq_ok a b h.1, rowEq_ok r s h.2]
 | [], _ :: _, h => by simp [rowEq] at h
 | _ :: _, [], h => by simp [rowEq] at h
end
def capEq : Cap → Cap → Bool
 | .d a, .d b => dEq a b
 | .ptr q o, .ptr q' o' => decide (q = q') && decide (o = o')
 | _, _ => false
def capsEq : List Cap → List Cap → Bool
 | [], [] => true
 | a :: r, b :: s => capEq a b && capsEq r s
 | _, _ => false
def cEq : C → C → Bool
 | .d a, .d b => dEq a b
 | .zero, .zero => true
 | .dead, .dead => true
 | .own q, .own q' => decide (q = q')
 | .ptr q o, .ptr q' o' => decide (q = q') && decide (o = o')
 | .arr q n z, .arr q' n' z' => decide (q = q') && (decide (n = n') && decide (z = z'))
 | .fn g x, .fn g' y => decide (g = g') && capsEq x y
 | _, _ => false
def csEq : List C → List C → Bool
 | [], [] => true
 | a :: r, b :: s => cEq a b && csEq r s
 | _, _ => false
def crowsEq : List (List C) → List (List C) → Bool
 | [], [] => true
 | a :: r, b :: s => csEq a b && crowsEq r s
 | _, _ => false
def boxEq : Box → Box → Bool
 | .st t a, .st t' b => decide (t = t') && csEq a b
 | .sl t n r, .sl t' n' r' => decide (t = t') && (decide (n = n') && rowsEq r r')
 | .ca t n r, .ca t' n' r' => decide (t = t') && (decide (n = n') && crowsEq r r')
 | _, _ => false
theorem capEq_ok {a b : Cap} (h : capEq a b = true) : a = b := by
 unfold capEq at h
 split at h
 ·rw [dEq_ok _ _ h]
 ·simp only [Bool.and_eq_true, decide_eq_true_eq] at h; rw [h.1, h.2]
 ·cases h
theorem capsEq_ok : ∀ {a b : List Cap}, capsEq a b = true → a = b
 | [], [], _ => rfl
 | a :: r, b :: s, h => by
  simp only [capsEq, Bool.and_eq_true] at h
  rw [capEq_ok h.1, capsEq_ok h.2]
 | [], _ :: _, h => by simp [capsEq] at h
 | _ :: _, [], h => by simp [capsEq] at h
theorem cEq_ok {a b : C} (h : cEq a b = true) : a = b := by
 unfold cEq at h
 split at h
 ·rw [dEq_ok _ _ h]
 ·rfl
 ·rfl
 ·rw [of_decide_eq_true h]
 ·simp only [Bool.and_eq_true, decide_eq_true_eq] at h; rw [h.1, h.2]
 ·simp only [Bool.and_eq_true, decide_eq_true_eq] at h; rw [h.1, h.2.1, h.2.2]
 ·simp only [Bool.and_eq_true, decide_eq_true_eq] at h; rw [h.1, capsEq_ok h.2]
 ·cases h
theorem csEq_ok : ∀ {a b : List C}, csEq a b = true → a = b
 | [], [], _ => rfl
 | a :: r, b :: s, h => by
  simp only [csEq, Bool.and_eq_true] at h
  rw [cEq_ok h.1, csEq_ok h.2]
 | [], _ :: _, h => by simp [csEq] at h
 | _ :: _, [], h => by simp [csEq] at h
theorem crowsEq_ok : ∀ {a b : List (List C)}, crowsEq a b = true → a = b
 | [], [], _ => rfl
 | a :: r, b :: s, h => by
  simp only [crowsEq, Bool.and_eq_true] at h
  rw [csEq_ok h.1, crowsEq_ok h.2]
 | [], _ :: _, h => by simp [crowsEq] at h
 | _ :: _, [], h => by simp [crowsEq] at h
theorem boxEq_ok {a b : Box} (h : boxEq a b = true) : a = b := by
 unfold boxEq at h
 split at h
 ·simp only [Bool.and_eq_true, decide_eq_true_eq] at h; rw [h.1, csEq_ok h.2]
 ·simp only [Bool.and_eq_true, decide_eq_true_eq] at h; rw [h.1, h.2.1, rowsEq_ok _ _ h.2.2]
 ·simp only [Bool.and_eq_true, decide_eq_true_eq] at h; rw [h.1, h.2.1, crowsEq_ok h.2.2]
 ·cases h
def lk {α β : Type} [DecidableEq α] : List (α × β) → α → Option β
 | [], _ => none
 | (k, v) :: r, a => if a = k then some v else lk r a
def sameUp (lb : Key → Option Box) (up : List (Key × Option Box)) (k : Key) : Bool := match lb k, lk up k with
 | some b, some (some b') => boxEq b b'
 | _, _ => false
def dropUp (lb : Key → Option Box) (e : Eff) : Eff := { e with up := e.up.filter fun x => !sameUp lb e.up x.1 }
def effCall (P : Program) (call : CallF) (lend : FuncId → Bool) (cur : Nat) (key : Nat → Key) (f : Operand) (args : List Operand) (lt : Nat → Option AV) (lb : Key → Option Box) : Option Eff :=
 match effCall0 P call lend cur key f args lt lb with
 | some e => some e
 | none => match calleeOf lt f with
  | some (g, caps) => if bodied P g then match argsG lt args with
   | some xs => (effG call key g (xs ++ caps.map fun c => (false, [c])) lb).map (dropUp lb)
   | none => none
   else none
  | none => none
def capOf : C → Option Cap
 | .d d => some (.d d)
 | .ptr q o => some (.ptr q o)
 | .rptr row o => some (.rptr row o)
 | _ => none
def effMakeFunc (fn : Fn) (first captured : List Operand) (lt : Nat → Option AV) : Option Eff :=
 match fn, first with
 | .func g, [] => if captured.isEmpty then some { av := .one false [.d (.v (.func (.func g) #[] #[]))] } else (captured.mapM fun x => ((ev lt x).bind slot1).bind capOf).map fun caps => { av := .one false [.fn g caps] }
 | _, _ => none
def mapFind (P : Program) (t : TypeId) (empty : Bool) (k : Value) (es : List MapEntry) : Option (TypeId × Option (Nat × Value)) :=
 match P.underlying t with
 | some (.map kt et) => match semVal P (Instr.checkKey empty 10000 kt k), semVal P (Instr.findKey kt k es) with
  | some _, some r => some (et, r)
  | _, _ => none
 | _ => none
def effLookup (P : Program) (t : TypeId) (x ix : Operand) (ok : Bool) (lt : Nat → Option AV) (lb : Key → Option Box) : Option Eff :=
 match (ev lt x).bind slot1, (ev lt ix).bind conV with
 | some (.mp q), some k => match lb q with
  | some (.mp es _) => match mapFind P t es.isEmpty k es.toList with
   | some (et, r) => match (match r with | some (_, v) => some (v, true) | none => (semVal P (zeroValue et)).map fun v => (v, false)) with
    | some (v, b) => match v with
     | .agg _ => none
     | v => (cellC v).map fun c => { av := if ok then .tup [(false, [c]), (false, [.d (.v (.bool b))])] else .one false [c] }
    | none => none
   | none => none
  | _ => none
 | _, _ => none
def effMapUpdate (P : Program) (t : TypeId) (x ix y : Operand) (lt : Nat → Option AV) (lb : Key → Option Box) : Option Eff :=
 match (ev lt x).bind slot1, (ev lt ix).bind conV, (ev lt y).bind conV with
 | some (.mp q), some k, some v => match lb q with
  | some (.mp es ck) => match mapFind P t false k es.toList with
   | some (_, some (i, _)) => if Instr.sameBits 10000 (((es[i]?).map (·.key)).getD k) k then some { av := .un, up := [(q, some (.mp (es.modify i fun e => { e with key := k, val := v }) ck))] } else none
   | some (_, none) => some { av := .un, up := [(q, some (.mp (es.push { key := k, val := v, born := ck }) (ck + 1)))] }
   | none => none
  | _ => none
 | _, _, _ => none
def effConv (P : Program) (s t : TypeId) (x : Operand) (o : Oper) (lt : Nat → Option AV) (lb : Key → Option Box) : Option Eff :=
 match P.underlying s, P.underlying t with
 | some (.slice e), some .string => match P.underlying e, (ev lt x).bind slot1 with
  | some (.int .u8), some c => ((lookRows lb 1 c).bind rowNums).map fun l => { av := .one false [.d (.v (.string (strOfNums l)))] }
  | _, _ => none
 | _, _ => effPlain P lt o
def effPtrNil (P : Program) (op : BinOp) (t : TypeId) (x y : Operand) (lt : Nat → Option AV) : Option Eff :=
 match P.underlying t, (ev lt x).bind slot1, (ev lt y).bind conV with
 | some (.pointer _), some c, some (.pointer none) => if isPtr c then match op with
     | .eql => some { av := .one false [.d (.v (.bool false))] }
     | .neq => some { av := .one false [.d (.v (.bool true))] }
     | _ => none
  else none
 | _, _, _ => none
def orE : Option Eff → Option Eff → Option Eff
 | some e, _ => some e
 | none, x => x
theorem orE_some {x y : Option Eff} {e : Eff} (h : x = some e) : orE x y = some e := by rw [h]; rfl
def effOf (P : Program) (call : CallF) (lend : FuncId → Bool) (cur : Nat) (key : Nat → Key) (o : Oper) (lt : Nat → Option AV) (lb : Key → Option Box) : Option Eff :=
 match o.op with
 | .move x => (ev lt x).map fun av => { av }
 | .assign x => (ev lt x).map fun av => { av }
 | .pick c x y => match ev lt c with
  | some (.one false [.d (.v (.bool b))]) => (if b then ev lt x else ev lt y).map fun av => { av }
  | _ => none
 | .alloc t => match (P.info? t).bind (·.zero) with
  | some z => (z.cells.toList.mapM cellC).map fun cs => { av := .one false [.ptr (key 0) 0], up := [(key 0, some (.st t cs))] }
  | none => none
 | .box t x => ((ev lt x).bind cellsOfAV).map fun cs => { av := .one false [.ptr (key 0) 0], up := [(key 0, some (.st t cs))] }
 | .build t parts => ((evParts lt parts.toList).bind (aBuilt P t)).map fun cs => { av := .one true cs }
 | .buildSlice t len parts => effBuildSlice P cur key t len parts.toList lt lb
 | .load t x => effLoad P t x lt lb
 | .store t x y => effStore P cur t x y lt lb
 | .nilCheck x => match (ev lt x).bind slot1 with
  | some c => if isPtr c then some { av := .one false [c] } else none
  | none => none
 | .fieldAddr s x f => match P.underlying s, (ev lt x).bind slot1 with
  | some (.struct fields), some c => match fields[f]? with
   | some fd => match sizeT P fd.type with
    | some sz => if sz = 0 then none else (addOff fd.offset c).map fun c => { av := .one false [c] }
    | none => none
   | none => none
  | _, _ => none
 | .indexAddr t x ix => effIndexAddr P t x ix lt lb
 | .field t x f => match P.underlying t, ev lt x with
  | some (.struct fields), some (.one true cs) => match fields[f]? with
   | some fd => match aggT P fd.type, sizeT P fd.type with
    | some true, some sz => if fd.offset + sz ≤ cs.length then some { av := .one true ((cs.drop fd.offset).take sz) } else none
    | some false, some _ => (cs[fd.offset]?).map fun c => { av := .one false [c] }
    | _, _ => none
   | none => none
  | _, _ => none
 | .extract x i => match ev lt x with
  | some (.tup xs) => (xs[i]?).map fun (b, cs) => { av := .one b cs }
  | _ => none
 | .slice t x lo hi mx => match effSlice P t x lo hi mx o lt lb with
  | some e => some e
  | none => effSliceO P key t x lo hi mx lt lb
 | .makeSlice t l c => effMakeSlice P key t l c lt
 | .call c => match c.callee with
  | .builtin .len => match c.argTypes.toList, c.args.toList with
   | [t], [x] => match P.underlying t with
    | some (.slice _) => (((ev lt x).bind slot1).bind (lenC lb)).map fun (n : Nat) => { av := .one false [.d (.v (.int .i64 (n : Int)))] }
    | _ => effPlain P lt o
   | _, _ => none
  | .builtin .append => match c.argTypes.toList, c.args.toList with
   | [t, tx], [s, x] => effAppend P key t tx s x lt lb
   | _, _ => none
  | .builtin .clear => match c.argTypes.toList, c.args.toList, o.dst with
   | [t], [x], none => effClear P t x lt lb
   | _, _, _ => none
  | .builtin .unsafeSliceData => match c.argTypes.toList, c.args.toList with
   | [t], [x] => effSliceData P t x lt lb
   | _, _ => none
  | .builtin .unsafeString => match c.argTypes.toList, c.args.toList with
   | [pt, _], [x, n] => effUnsafeStr P pt x n lt lb
   | _, _ => none
  | .builtin _ => effPlain P lt o
  | .value f => effCall P call lend cur key f c.args.toList lt lb
  | .invoke .. => none
 | .makeFunc fn first captured => effMakeFunc fn first.toList captured.toList lt
 | .makeMap t none => some { av := .one false [.mp (key 0)], up := [(key 0, some (.mp #[] 0))] }
 | .lookup t x ix ok => effLookup P t x ix ok lt lb
 | .mapUpdate t m k x => effMapUpdate P t m k x lt lb
 | .insert t m k x => effMapUpdate P t m k x lt lb
 | .binOp op t x y _ => orE (effPlain P lt o) (effPtrNil P op t x y lt)
 | .unOp .. => effPlain P lt o
 | .convert s t x => effConv P s t x o lt lb
 | .index .. => effPlain P lt o
 | _ => none
structure St where
 tm : List (Nat × AV)
 bx : List (Key × Box)
 nx : Nat
def keysAV : AV → List Key
 | .one _ cs => cs.flatMap keysC
 | .tup xs => xs.flatMap fun (_, cs) => cs.flatMap keysC
 | _ => []
def opTmps (o : Oper) : List Nat := o.op.operands.toList.filterMap fun x => match x with | .tmp t => some t | _ => none
def keysB : Option Box → List Key
 | some (.st _ cs) => cs.flatMap keysC
 | some (.ca _ _ rows) => rows.flatten.flatMap keysC
 | _ => []
def looks : Op → Bool
 | .load .. => true
 | .store .. => true
 | .indexAddr .. => true
 | .buildSlice .. => true
 | .call _ => true
 | .lookup .. => true
 | .mapUpdate .. => true
 | .insert .. => true
 | .convert .. => true
 | .slice .. => true
 | _ => false
def keysT (lt : Nat → Option AV) (t : Nat) : List Key := match lt t with
 | some av => keysAV av
 | none => []
def flatOp : Op → Bool
 | .load .. => true
 | .indexAddr .. => true
 | .slice .. => true
 | _ => false
def deepOp (op : Op) (lb : Key → Option Box) (ks : List Key) : List Key → List Key
 | [] => []
 | _ :: _ => match op with
  | .call _ => reachK lb 8 ks
  | _ => []
def opKeys (lt : Nat → Option AV) (lb : Key → Option Box) (o : Oper) : List Key :=
 if looks o.op then
  let ks := (opTmps o).flatMap (keysT lt)
  if flatOp o.op then ks else
  let ls := ks.flatMap fun q => keysB (lb q)
  let l2 := ls.flatMap fun q => keysB (lb q)
  ks ++ (ls ++ (l2 ++ deepOp o.op lb ks l2))
 else []
def onlyT (o : Oper) (lt : Nat → Option AV) (t : Nat) : Option AV := if (opTmps o).contains t then lt t else none
def onlyB (ks : List Key) (lb : Key → Option Box) (k : Key) : Option Box := if ks.contains k then lb k else none
def setT (d : Option Nat) (av : AV) (tm : List (Nat × AV)) : List (Nat × AV) :=
 match d with
 | some d => (d, av) :: tm.filter (·.1 != d)
 | none => tm
def freezeB (ks : List Key) (bx : List (Key × Box)) : List (Key × Box) := bx.map fun (k, b) => (k, match b with
 | .sl ty sz rows => if ks.contains k then .fz sz rows else .sl ty sz rows
 | b => b)
structure Env where
 call : Nat → CallF
 lend : FuncId → Bool
 cl : Code → St → St
 fuel : Nat
 N : Nat
def wantA (ops : Array Oper) (o : Oper) (lt : Nat → Option AV) : Option Bool :=
 match o.guard with
 | none => some true
 | some (j, b) => match ((ops[j]?).bind (·.dst)).bind lt with
  | some (.one false [.d (.v (.bool c))]) => some (c == b)
  | some .un => some false
  | _ => none
def keyAt (i nx : Nat) (j : Nat) : Key := (i * 64 + j, nx)
def effAt (P : Program) (E : Env) (i : Nat) (o : Oper) (lt : Nat → Option AV) (lb : Key → Option Box) (nx : Nat) : Option Eff :=
 effOf P (E.call i) E.lend nx (keyAt i nx) o (onlyT o lt) (onlyB (opKeys lt lb o) lb)
def putB : List (Key × Option Box) → List (Key × Box) → List (Key × Box)
 | [], bx => bx
 | (k, some b) :: r, bx => (k, b) :: (putB r bx).filter (·.1 != k)
 | (k, none) :: r, bx => (putB r bx).filter (·.1 != k)
structure Note where
 keys : List Key
 ups : List Key
def seqOps (P : Program) (E : Env) (ops : Array Oper) : Nat → List Oper → St → Option (St × List Key × List Note)
 | _, [], st => some (st, [], [])
 | i, o :: rest, st => if o.dst.all (· < E.N) then match wantA ops o (lk st.tm) with
  | some true => match effAt P E i o (lk st.tm) (lk st.bx) st.nx with
   | some e => (seqOps P E ops (i + 1) rest { st with tm := setT o.dst e.av st.tm, bx := putB e.up st.bx }).map fun (s, k, r) => (s, e.needs ++ k, ⟨opKeys (lk st.tm) (lk st.bx) o, e.up.map (·.1)⟩ :: r)
   | none => none
  | some false => (seqOps P E ops (i + 1) rest { st with tm := setT o.dst .un st.tm }).map fun (s, k, r) => (s, k, ⟨[], []⟩ :: r)
  | none => none
  else none
def guardTmps (ops : Array Oper) (o : Oper) : List Nat := match o.guard with
 | none => []
 | some (j, _) => ((ops[j]?).bind (·.dst)).toList
def apartOk (ops : Array Oper) (o o' : Oper) (n n' : Note) : Bool :=
 (match o.dst with
  | some d => !(opTmps o').contains d && !(guardTmps ops o').contains d && o'.dst != some d
  | none => true) &&
 n.ups.all fun k => !n'.keys.contains k && !n'.ups.contains k
def masks (ops : Array Oper) : Nat → List Nat
 | 0 => []
 | k + 1 => masks ops k ++ [match ops[k]? with
  | some o => o.after.toList.foldl (fun s e => if Region.binds .any e then s ||| (2 ^ e.on ||| (masks ops k).getD e.on 0) else s) 0
  | none => 0]
def orderOk (ops : Array Oper) (b : List Nat) (ns : List Note) : Bool :=
 (List.range ops.size).all fun j => (match ops[j]? with
  | some o => o.after.toList.all fun e => !Region.binds .any e || decide (e.on < j)
  | none => false) && (List.range j).all fun i => (b.getD j 0).testBit i || match ops[i]?, ops[j]?, ns[i]?, ns[j]? with
  | some o, some o', some n, some n' => apartOk ops o o' n n' && apartOk ops o' o n' n
  | _, _, _, _ => false
def aregion (P : Program) (E : Env) (ops : Array Oper) (draw : Bool) (st : St) : Option St :=
 let go (st : St) : Option (St × List Key) := match seqOps P E ops 0 ops.toList st with
  | some (s, k, ns) => if !draw || orderOk ops (masks ops ops.size) ns then some (s, k) else none
  | none => none
 match go st with
 | some (s, []) => some { s with nx := s.nx + 1 }
 | some (_, ks) => match go { st with bx := freezeB ks st.bx } with
  | some (s, []) => some { s with nx := s.nx + 1 }
  | _ => none
 | none => none
inductive AX where
 | normal
 | exit (id : Nat)
 | ret
def iter (f : St → Option (AX × St)) : Nat → St → Option (AX × St)
 | 0, _ => none
 | n + 1, st => match f st with
  | some (.normal, s) => iter f n s
  | r => r
def aexec (P : Program) (E : Env) : Code → St → Option (AX × St)
 | .skip, st => some (.normal, st)
 | .label _, st => some (.normal, st)
 | .region _ ops draw, st => (aregion P E ops draw st).map fun s => (.normal, s)
 | .seq a b, st => match aexec P E a st with
  | some (.normal, s) => aexec P E b s
  | r => r
 | .cond c x y, st => match ev (lk st.tm) c with
  | some (.one false [.d (.v (.bool b))]) => if b then aexec P E x st else aexec P E y st
  | _ => none
 | .block id b, st => match aexec P E b st with
  | some (.exit i, s) => if i = id then some (.normal, s) else some (.exit i, s)
  | r => r
 | .loop b, st => iter (fun s => aexec P E b (E.cl b s)) E.fuel st
 | .exit id, st => some (.exit id, st)
 | .ret, st => some (.ret, st)
 | _, _ => none
def argTm : Nat → List Arg → List (Nat × AV)
 | _, [] => []
 | i, .val b cs :: r => (i, .one b cs) :: argTm (i + 1) r
 | i, .io _ _ :: r => (i, .one false [.ptr (i, 0) 0]) :: argTm (i + 1) r
def resOf (P : Program) (st : St) : ResultVar → Option (Bool × List C)
 | .tmp t => match (lk st.tm) t with
  | some (.one b cs) => some (b, cs)
  | _ => none
 | .cell a t => match ((lk st.tm) a).bind slot1 with
  | some c => match behind (lk st.bx) c, aggT P t, sizeT P t with
   | some (cs, off), some true, some sz => if off + sz ≤ cs.length then some (true, (cs.drop off).take sz) else none
   | some (cs, off), some false, some _ => (cs[off]?).map fun c => (false, [c])
   | _, _, _ => none
  | none => none
def outC (keep : Bool) (lb : Key → Option Box) : C → Option (C × List Key)
 | .own q => match lb q with
  | some (.fz sz rows) => some (.d (.sl sz rows), [])
  | some (.sl _ sz rows) => if keep then some (.own q, []) else some (.d (.sl sz rows), [q])
  | some (.ca ..) => if keep then some (.own q, []) else none
  | none => if keep then some (.dead, []) else none
  | _ => none
 | .ptr q o => if keep then some (.ptr q o, []) else none
 | .arr q n z => if keep then some (.arr q n z, []) else none
 | .eptr .. => none
 | .mp q => if keep then some (.mp q, []) else none
 | .fn g caps => if keep || caps.all (fun c => (capKeys c).isEmpty) then some (.fn g caps, []) else none
 | c => some (c, [])
def outCs (keep : Bool) (lb : Key → Option Box) : List C → Option (List C × List Key)
 | [] => some ([], [])
 | c :: cs => match outC keep lb c, outCs keep lb cs with
  | some (d, k), some (ds, ks) => some (d :: ds, k ++ ks)
  | _, _ => none
def outVals (keep : Bool) (lb : Key → Option Box) : List (Bool × List C) → Option (List (Bool × List C) × List Key)
 | [] => some ([], [])
 | (b, cs) :: r => match outCs keep lb cs, outVals keep lb r with
  | some (d, k), some (ds, ks) => some ((b, d) :: ds, k ++ ks)
  | _, _ => none
def outIos (lb : Key → Option Box) : Nat → List Arg → Option (List (List C))
 | _, [] => some []
 | i, .val _ _ :: r => outIos lb (i + 1) r
 | i, .io ty _ :: r => match lb (i, 0) with
  | some (.st ty' cs) => if ty' = ty then match outCs true lb cs, outIos lb (i + 1) r with
   | some (d, _), some ds => some (d :: ds)
   | _, _ => none
   else none
  | _ => none
def keepB (bx : List (Key × Box)) : List Key → Option (List (Key × Box))
 | [] => some []
 | k :: ks => match (lk bx) k, keepB bx ks with
  | some (.sl ty sz rows), some r => some (if ks.contains k then r else (k, .sl ty sz rows) :: r)
  | some (.mp es ck), some r => some (if ks.contains k then r else (k, .mp es ck) :: r)
  | some (.st ty cs), some r => match outCs true (lk bx) cs with
   | some (d, _) => some (if ks.contains k then r else (k, .st ty d) :: r)
   | none => none
  | some (.ca ty sz rows), some r => match outCs true (lk bx) rows.flatten with
   | some _ => some (if ks.contains k then r else (k, .ca ty sz rows) :: r)
   | none => none
  | _, _ => none
def keysOut (bx : List (Key × Box)) (k : Key) : List Key := match lk bx k with
 | some (.st _ cs) => ((outCs true (lk bx) cs).map fun x => x.1.flatMap keysC).getD []
 | some (.ca _ _ rows) => rows.flatten.flatMap keysC
 | _ => []
def leadK (bx : List (Key × Box)) : Nat → List Key → List Key
 | 0, ks => ks
 | n + 1, ks => leadK bx n (ks ++ (ks.flatMap (keysOut bx)).filter fun k => !ks.contains k)
def passedK (args : List Arg) (bxs bx : List (Key × Box)) : List Key := if args.any (fun a => match a with
    | .val _ cs => cs.any fun c => !(keysC c).isEmpty
    | .io .. => false) then (bxs.map (·.1)).filter fun k => match lk bx k with
    | some b => b.okRes
    | none => false
 else []
def afn (P : Program) (E : Env) (own : Bool) (f : FuncId) (args : List Arg) (bxs : List (Key × Box)) : Option ARes :=
 match P.funcs[f]? with
 | some fn => match fn.body with
  | some body => if fn.params.size ≤ args.length ∧ args.length ≤ fn.ntmps then
      match aexec P E body { tm := argTm 0 args, bx := argBx 0 args ++ bxs, nx := 1 } with
      | some (.exit _, _) => none
      | some (_, st) => match fn.results.toList.mapM (resOf P st) with
       | some vs => match outVals own (lk st.bx) vs with
        | some (vals, ks) =>
         let bx := freezeB ks st.bx
         match outIos (lk bx) 0 args with
         | some ios => match keepB bx (leadK bx 8 (vals.flatMap (fun (_, cs) => cs.flatMap keysC) ++ ((ios.flatMap fun cs => cs.flatMap keysC) ++ passedK args bxs bx))) with
          | some b => some { vals, ios, bx := b }
          | none => none
         | none => none
        | none => none
       | none => none
      | none => none
   else none
  | none => none
 | none => none
structure Ann where
 own : FuncId → Bool
 lend : FuncId → Bool
 cl : Code → St → St
 ext : CallF
 gen : FuncId → Bool := fun _ => false
def acall (P : Program) (A : Ann) : Nat → CallF
 | 0, f, args, bxs => A.ext f args bxs
 | n + 1, f, args, bxs => match A.ext f args bxs with
  | some r => some r
  | none => if (A.gen f && args.any isIo) = true then none else afn P { call := fun _ => acall P A n, lend := A.lend, cl := A.cl, fuel := n, N := ((P.funcs[f]?).map (·.ntmps)).getD 0 } (A.own f) f args bxs
end Go.Proofs.YtjpdemikmdfonaaGreatDoor
namespace Go.Proofs.YtjpdemikmdfonaaGreatDoor
open Go Go.RowKit
set_option linter.unusedSimpArgs false
set_option linter.unusedVariables false
def updT (lt : Nat → Option AV) (d : Option Nat) (av : AV) (t : Nat) : Option AV := if d = some t then some av else lt t
def updB (lb : Key → Option Box) (up : List (Key × Option Box)) (k : Key) : Option Box := match lk up k with | some ob => ob | none => lb k
def updR (ρ : Key → Hd) (k : Key) (h : Hd) (q : Key) : Hd := if q = k then h else ρ q
theorem put_getD (a : Act) (d : Option Nat) (v : Value) (t : Nat) (hd : ∀ k, d = some k → k < a.tmps.size) : (a.put d v).tmps.getD t undef = if d = some t then v else a.tmps.getD t undef := by
 cases d with
 | none => rfl
 | some d =>
  have := hd d rfl
  by_cases h : d = t
  ·subst h
   simp [Act.put, Array.getD_eq_getD_getElem?, this]
  ·rw [if_neg (by simpa using h)]
   simp [Act.put, Array.getD_eq_getD_getElem?, Array.getElem?_setIfInBounds_ne h]
theorem put_sz (a : Act) (d : Option Nat) (v : Value) : (a.put d v).tmps.size = a.tmps.size := by cases d <;> simp [Act.put]
theorem put_def (a : Act) (d : Option Nat) (v : Value) : (a.put d v).defers = a.defers := by cases d <;> rfl
section
variable {V X : Nat → Prop} {Z : Key → Hd} {w0 w w' : World} {N : Nat} {ρ ρ' : Key → Hd} {ok ok' : Key → Prop} {lt lt' : Nat → Option AV} {lb lb' : Key → Option Box} {a : Act}
theorem Rel.step (h : Rel V X Z w0 N ρ ok lt lb a w) (d : Option Nat) (av : AV) (v : Value) (hd : ∀ k, d = some k → k < N)
    (hk : Keep (Im V ρ' lb') w w') (hs : ∀ b, b < w.heap.size → Im V ρ lb b → Im V ρ' lb' b) (hρ : ∀ q : Key, ok q → ρ' q = ρ q) (ho : ∀ q : Key, ok q → ok' q)
    (hv : AVRel (CRel (Im V ρ' lb') ρ' ok' w') av v)
    (hbx : ∀ q box, lb' q = some box → (lb q = some box ∧ (box.live = true → ∀ b, (ρ q).g = some b → w'.heap[b]? = w.heap[b]?)) ∨ (ok' q ∧ BoxRel (Im V ρ' lb') ρ' ok' w' q box))
    (hap : ∀ q box q' box' b, lb' q = some box → box.live = true → lb' q' = some box' → box'.live = true → (ρ' q).g = some b → (ρ' q').g = some b → q = q')
    (hlo : ∀ q box b, lb' q = some box → box.live = true → (ρ' q).g = some b → b < w'.heap.size ∧ (w0.heap.size ≤ b ∨ X b))
    (hfr : Keep (fun b => ¬ X b) w0 w') : Rel V X Z w0 N ρ' ok' (updT lt d av) lb' (a.put d v) w' := by
 have hsz : ∀ k, d = some k → k < a.tmps.size := fun k hk' => by rw [h.size]; exact hd k hk'
 refine ⟨by rw [put_sz]; exact h.size, by rw [put_def]; exact h.defers, fun t av' ht => ?_, fun q box hq => ?_, hap, hlo, hfr, h.va, fun q hq => ⟨ho q (h.zz q hq).1, by rw [hρ q (h.zz q hq).1]; exact (h.zz q hq).2⟩⟩
 ·rw [put_getD a d v t hsz]
  unfold updT at ht
  by_cases e : d = some t
  ·rw [if_pos e] at ht ⊢
   cases ht
   exact ⟨hd t e, hv⟩
  ·rw [if_neg e] at ht ⊢
   obtain ⟨h1, h2⟩ := h.tm t av' ht
   exact ⟨h1, h2.imp fun c v hc => hc.keep hk hs hρ ho⟩
 ·rcases hbx q box hq with ⟨h1, h2⟩ | h1
  ·obtain ⟨h3, h4⟩ := h.bx q box h1
   exact ⟨ho q h3, h4.keep hk hs hρ ho h3 h2⟩
  ·exact h1
theorem Rel.pure (h : Rel V X Z w0 N ρ ok lt lb a w) (d : Option Nat) (av : AV) (v : Value) (hd : ∀ k, d = some k → k < N) (ho : ∀ q : Key, ok q → ok' q)
    (hv : AVRel (CRel (Im V ρ lb) ρ ok w) av v) : Rel V X Z w0 N ρ ok' (updT lt d av) lb (a.put d v) w :=
 h.step d av v hd (Keep.refl _ _) (fun _ _ h => h) (fun _ _ => rfl) ho (hv.imp fun c v hc => hc.keep (Keep.refl _ _) (fun _ _ h => h) (fun _ _ => rfl) ho) (fun q box hq => .inl ⟨hq, fun _ _ _ => rfl⟩) h.ap h.lo h.fr
theorem Keep.out (h : Rel V X Z w0 N ρ ok lt lb a w) (hk : Keep (fun b => ∀ q box, lb q = some box → box.live = true → (ρ q).g ≠ some b) w w') : Keep (fun b => ¬ X b) w0 w' :=
 ⟨hk.os.trans h.fr.os, hk.tape.trans h.fr.tape, hk.output.trans h.fr.output, Nat.le_trans h.fr.size hk.size, fun b hb hx => (hk.block b (Nat.lt_of_lt_of_le hb h.fr.size) (fun q box hq hl hg => by
  rcases (h.lo q box b hq hl hg).2 with h1 | h1
  ·omega
  ·exact hx h1)).trans (h.fr.block b hb hx)⟩
theorem Rel.new (h : Rel V X Z w0 N ρ ok lt lb a w) (d : Option Nat) (av : AV) (v : Value) (hd : ∀ k, d = some k → k < N) (k : Key) (hk : ¬ ok k) (hd' : Hd) (box : Box) (hg : ∀ b, hd'.g = some b → w.heap.size ≤ b ∧ b < w'.heap.size) (hk' : ok' k) (ho : ∀ q : Key, ok q → ok' q)
    (hw : Keep (fun b => b < w.heap.size) w w')
    (hv : AVRel (CRel (Im V (updR ρ k hd') (updB lb [(k, some box)])) (updR ρ k hd') ok' w') av v)
    (hB : BoxRel (Im V (updR ρ k hd') (updB lb [(k, some box)])) (updR ρ k hd') ok' w' k box) : Rel V X Z w0 N (updR ρ k hd') ok' (updT lt d av) (updB lb [(k, some box)]) (a.put d v) w' := by
 have hbb : ∀ q : Key, updB lb [(k, some box)] q = if q = k then some box else lb q := fun q => by
  unfold updB lk lk
  split <;> simp_all
 have hne : ∀ q box', lb q = some box' → q ≠ k := fun q box' hq e => hk (e ▸ (h.bx q box' hq).1)
 refine h.step d av v hd (hw.mono fun b hb _ => hb) (fun b hb hi => ⟨hi.1, fun q box' hq hl => ?_⟩) (fun q hq => ?_) ho hv (fun q box' hq => ?_) (fun q b1 q' b2 b e1 l1 e2 l2 g1 g2 => ?_) (fun q box' b hq hl hgb => ?_) ?_
 ·rw [hbb] at hq
  unfold updR
  split
  ·intro hh; have := (hg b hh).1; omega
  ·rename_i hqk
   rw [if_neg hqk] at hq
   exact hi.2 q box' hq hl
 ·unfold updR
  rw [if_neg (fun e : q = k => hk (e ▸ hq))]
 ·rw [hbb] at hq
  by_cases e : q = k
  ·subst e
   rw [if_pos rfl] at hq
   cases hq
   exact .inr ⟨hk', hB⟩
  ·rw [if_neg e] at hq
   exact .inl ⟨hq, fun hl b hb => hw.block b (h.lo q box' b hq hl hb).1 (h.lo q box' b hq hl hb).1⟩
 ·rw [hbb] at e1 e2
  by_cases c1 : q = k
  ·by_cases c2 : q' = k
   ·rw [c1, c2]
   ·rw [if_neg c2] at e2
    unfold updR at g1 g2
    rw [if_pos c1] at g1
    rw [if_neg c2] at g2
    have h1 := hg b g1
    have := (h.lo q' b2 _ e2 l2 g2).1
    omega
  ·rw [if_neg c1] at e1
   unfold updR at g1 g2
   rw [if_neg c1] at g1
   by_cases c2 : q' = k
   ·rw [if_pos c2] at g2
    have h1 := hg b g2
    have := (h.lo q b1 _ e1 l1 g1).1
    omega
   ·rw [if_neg c2] at e2 g2
    exact h.ap q b1 q' b2 b e1 l1 e2 l2 g1 g2
 ·rw [hbb] at hq
  unfold updR at hgb
  by_cases e : q = k
  ·rw [if_pos e] at hgb
   have h1 := hg b hgb
   exact ⟨h1.2, .inl (Nat.le_trans h.fr.size h1.1)⟩
  ·rw [if_neg e] at hq hgb
   have := h.lo q box' b hq hl hgb
   exact ⟨Nat.lt_of_lt_of_le this.1 hw.size, this.2⟩
 ·exact ⟨hw.os.trans h.fr.os, hw.tape.trans h.fr.tape, hw.output.trans h.fr.output, Nat.le_trans h.fr.size hw.size, fun b hb hx => (hw.block b (Nat.lt_of_lt_of_le hb h.fr.size) (Nat.lt_of_lt_of_le hb h.fr.size)).trans (h.fr.block b hb hx)⟩
theorem Rel.okmono (h : Rel V X Z w0 N ρ ok lt lb a w) (ho : ∀ q : Key, ok q → ok' q) : Rel V X Z w0 N ρ ok' lt lb a w :=
 ⟨h.size, h.defers, fun t av ht => ⟨(h.tm t av ht).1, (h.tm t av ht).2.imp fun c v hc => hc.keep (Keep.refl _ _) (fun _ _ h => h) (fun _ _ => rfl) ho⟩,
  fun q box hq => ⟨ho q (h.bx q box hq).1, (h.bx q box hq).2.keep (Keep.refl _ _) (fun _ _ h => h) (fun _ _ => rfl) ho (h.bx q box hq).1 (fun _ _ _ => rfl)⟩, h.ap, h.lo, h.fr, h.va, fun q hq => ⟨ho q (h.zz q hq).1, (h.zz q hq).2⟩⟩
end
theorem semVal_run {α : Type} {P : Program} : ∀ {s : Sem α} {x : α}, semVal P s = some x → ∀ w, s.run P w = .ok x w
 | .pure a, x, h, w => by simp [semVal] at h; subst h; rfl
 | .program k, x, h, w => by
  unfold semVal at h
  show (k P).run P w = _
  exact semVal_run h w
 | .mark m k, x, h, w => by
  unfold semVal at h
  show k.run P w = _
  exact semVal_run h w
 | .load .., x, h, w => by simp [semVal] at h
 | .store .., x, h, w => by simp [semVal] at h
 | .new .., x, h, w => by simp [semVal] at h
 | .shape .., x, h, w => by simp [semVal] at h
 | .freeze .., x, h, w => by simp [semVal] at h
 | .frozen .., x, h, w => by simp [semVal] at h
 | .getObj .., x, h, w => by simp [semVal] at h
 | .setObj .., x, h, w => by simp [semVal] at h
 | .choose .., x, h, w => by simp [semVal] at h
 | .sys .., x, h, w => by simp [semVal] at h
 | .halt .., x, h, w => by simp [semVal] at h
section
variable {S : Nat → Prop} {ρ : Key → Hd} {ok : Key → Prop} {w : World}
theorem cellC_sound {v : Value} {c : C} (h : cellC v = some c) : CRel S ρ ok w c v := by
 unfold cellC at h
 split at h
 ·cases h; exact ⟨none, rfl⟩
 ·cases h; exact (rfl : (Value.map none).oneCell' = true)
 ·split at h
  ·cases h; exact .v (by assumption)
  ·cases h
theorem cellCs_sound : ∀ {vs : List Value} {cs : List C}, vs.mapM cellC = some cs → All2 (CRel S ρ ok w) cs vs
 | [], cs, h => by simp at h; subst h; exact .nil
 | v :: vs, cs, h => by
  simp only [List.mapM_cons, Option.bind_eq_bind, Option.pure_def] at h
  cases h1 : cellC v with
  | none => simp [h1] at h
  | some c =>
   cases h2 : vs.mapM cellC with
   | none => simp [h1, h2] at h
   | some cs' =>
    simp [h1, h2] at h
    subst h
    exact .cons (cellC_sound h1) (cellCs_sound h2)
theorem constAV_sound {v : Value} {av : AV} (h : constAV v = some av) : AVRel (CRel S ρ ok w) av v := by
 unfold constAV at h
 split at h
 ·rename_i cs
  cases h1 : cs.toList.mapM cellC with
  | none => simp [h1] at h
  | some l =>
   simp [h1] at h
   subst h
   exact ⟨cs.toList, cellCs_sound h1, by simp⟩
 ·cases h1 : cellC v with
  | none => simp [h1] at h
  | some c =>
   simp [h1] at h
   subst h
   exact ⟨[v], .cons (cellC_sound h1) .nil, by simp⟩
theorem scV_sound {c : C} {v x : Value} (h : scV c = some x) (hc : CRel S ρ ok w c v) : v = x := by
 unfold scV at h
 split at h
 ·cases h; exact (Rd.val hc).1
 ·cases h
theorem scVs_sound : ∀ {cs : List C} {vs xs : List Value}, cs.mapM scV = some xs → All2 (CRel S ρ ok w) cs vs → vs = xs
 | [], vs, xs, h, hc => by simp at h; subst h; cases hc; rfl
 | c :: cs, vs, xs, h, hc => by
  simp only [List.mapM_cons, Option.bind_eq_bind, Option.pure_def] at h
  cases h1 : scV c with
  | none => simp [h1] at h
  | some x =>
   cases h2 : cs.mapM scV with
   | none => simp [h1, h2] at h
   | some xs' =>
    simp [h1, h2] at h
    subst h
    cases hc with
    | cons a b => rw [scV_sound h1 a, scVs_sound h2 b]
theorem conV_sound {av : AV} {v x : Value} (h : conV av = some x) (hv : AVRel (CRel S ρ ok w) av v) : v = x := by
 unfold conV at h
 split at h
 ·rename_i cs
  obtain ⟨vs, h1, h2⟩ := hv
  cases h3 : cs.mapM scV with
  | none => simp [h3] at h
  | some xs =>
   simp [h3] at h
   subst h
   simp at h2
   rw [h2, scVs_sound h3 h1]
 ·cases h
  obtain ⟨vs, h1, h2⟩ := hv
  simp at h2
  subst h2
  cases h1 with
  | cons a b => exact (Rd.val a).1
 ·cases h
theorem slot1_sound {av : AV} {c : C} {v : Value} (h : slot1 av = some c) (hv : AVRel (CRel S ρ ok w) av v) : CRel S ρ ok w c v := by
 unfold slot1 at h
 split at h
 ·cases h
  obtain ⟨vs, h1, h2⟩ := hv
  simp at h2
  subst h2
  cases h1 with
  | cons a b => exact a
 ·cases h
theorem one1 {c : C} {v : Value} (h : CRel S ρ ok w c v) : AVRel (CRel S ρ ok w) (.one false [c]) v := ⟨[v], .cons h .nil, by simp⟩
theorem oneAgg {cs : List C} {vs : List Value} (h : All2 (CRel S ρ ok w) cs vs) : AVRel (CRel S ρ ok w) (.one true cs) (.agg vs.toArray) := ⟨vs, h, by simp⟩
theorem cells_of_one {v : Value} (h : v.oneCell' = true) : v.cells = #[v] := by cases v <;> first | rfl | simp [Value.oneCell'] at h
theorem cellsOfAV_sound {av : AV} {cs : List C} {v : Value} (h : cellsOfAV av = some cs) (hv : AVRel (CRel S ρ ok w) av v) : ∃ vs, All2 (CRel S ρ ok w) cs vs ∧ v.cells = vs.toArray ∧ vs.length = cs.length := by
 unfold cellsOfAV at h
 split at h
 ·cases h
  obtain ⟨vs, h1, h2⟩ := hv
  simp at h2
  subst h2
  exact ⟨vs, h1, rfl, h1.length.symm⟩
 ·cases h
  obtain ⟨vs, h1, h2⟩ := hv
  simp at h2
  subst h2
  refine ⟨[v], h1, ?_, rfl⟩
  cases h1 with
  | cons a b => rw [cells_of_one a.one]
 ·cases h
end
section
variable {V X : Nat → Prop} {Z : Key → Hd} {w0 w w' : World} {N : Nat} {ρ ρ' : Key → Hd} {ok ok' : Key → Prop} {lt lt' : Nat → Option AV} {lb lb' : Key → Option Box} {a : Act} {P : Program}
theorem ev_sound (h : Rel V X Z w0 N ρ ok lt lb a w) (hl : ∀ t x, lt' t = some x → lt t = some x) {x : Operand} {av : AV} (he : ev lt' x = some av) : AVRel (CRel (Im V ρ lb) ρ ok w) av (a.eval x) := by
 cases x with
 | tmp t => exact (h.tm t av (hl t av he)).2
 | const v => exact constAV_sound he
 | func f => simp [ev] at he; subst he; exact one1 (.v rfl)
 | global g => simp [ev] at he
theorem intV_sound (h : Rel V X Z w0 N ρ ok lt lb a w) (hl : ∀ t x, lt' t = some x → lt t = some x) {x : Operand} {n : Int} (he : intV (ev lt' x) = some n) : ∃ k, a.eval x = .int k n := by
 unfold intV at he
 split at he
 ·rename_i k m heq
  cases he
  have := ev_sound h hl heq
  exact ⟨k, conV_sound (av := .one false [.d (.v (.int k n))]) (x := .int k n) rfl this⟩
 ·cases he
theorem effPlain_sound (h : Rel V X Z w0 N ρ ok lt lb a w) (hl : ∀ t x, lt' t = some x → lt t = some x) {o : Oper} {e : Eff} (he : effPlain P lt' o = some e) :
    e.up = [] ∧ ∃ v, (execOp a.eval o).run P w = .ok (.value v) w ∧ AVRel (CRel (Im V ρ lb) ρ ok w) e.av v := by
 unfold effPlain at he
 split at he
 ·rename_i hc
  simp only [Bool.and_eq_true] at hc
  split at he
  ·rename_i v hv
   cases h1 : constAV v with
   | none => simp [h1] at he
   | some av =>
    simp [h1] at he
    subst he
    refine ⟨rfl, v, ?_, constAV_sound h1⟩
    have e1 : execOp a.eval o = execOp (fun x => ((ev lt' x).bind conV).getD undef) o := by
     refine execOp_congr o (fun cs b e => ?_) (fun x hx => ?_)
     ·rw [e] at hc; simp [plainOp] at hc
     ·have := List.all_eq_true.1 hc.2 x (by simpa using hx)
      cases h2 : ev lt' x with
      | none => simp [h2] at this
      | some av' =>
       cases h3 : conV av' with
       | none => simp [h2, h3] at this
       | some u => simp [h2, h3]; exact conV_sound h3 (ev_sound h hl h2)
    rw [e1]
    exact semVal_run hv w
  ·cases he
 ·cases he
end
end Go.Proofs.YtjpdemikmdfonaaGreatDoor

