/- Rules of runs and contracts of functions, for the claims of one seat. -/
import Derived.Test.YtngjhkgcfabciaaGreatQA1
import Derived.Test.YtngjhkgcfabciaaGreatQA11
import Derived.Test.YtngjhkgcfabciaaGreatQA14
import Derived.Test.YtngjhkgcfabciaaGreatQA18
import Derived.Test.YtngjhkgcfabciaaGreatQA33
namespace Go.Proofs.YtngjhkgcfabciaaGreat
open Go.ChangeShapes Go.WideShapes Go.ChangeAt Go.RowKit Go.Joins Go.Deep
set_option linter.unusedSimpArgs false
set_option linter.unusedVariables false
set_option maxRecDepth 100000
theorem pick_list {α : Type} {n : Nat} {p : Nat → α → Prop} (h : ∀ i, i < n → ∃ e, p i e) : ∃ l : List α, l.length = n ∧ ∀ i (hi : i < l.length), p i l[i] := by
 induction n with
 | zero => exact ⟨[], rfl, fun i hi => by simp at hi⟩
 | succ n ih =>
  obtain ⟨l, h1, h2⟩ := ih (fun i hi => h i (by omega))
  obtain ⟨e, he⟩ := h n (by omega)
  refine ⟨l ++ [e], by simp [h1], fun i hi => ?_⟩
  by_cases hc : i < l.length
  ·rw [List.getElem_append_left hc]; exact h2 i hc
  ·have : i = l.length := by simp at hi; omega
   subst this
   rw [List.getElem_append_right (Nat.le_refl _)]
   simpa [h1] using he
section
variable {H : Type} {enc : TypeId × Value → H} {P : Program} {w : World} {base : Nat} {spare : Nat → Bool} {held : Bool}
def Sz (P : Program) (t : TypeId) (d : DataW H) : Prop := ∀ n ∈ d.weights P t, n ≤ reachBytes
theorem sz_arg {ts : List TypeId} {ds : List (DataW H)} (h : (DataW.weightsEach P ts ds).all (· ≤ reachBytes) = true) {j : Nat} {t : TypeId} {d : DataW H} (ht : ts[j]? = some t) (hd : ds[j]? = some d) : Sz P t d := fun n hn => by
 have := List.all_eq_true.1 h _ (DataW.weights_mem_each ht hd n hn)
 simpa using this
theorem weightsAll_mem {e : TypeId} : ∀ {l : List (DataW H)} {d : DataW H}, d ∈ l → ∀ n ∈ d.weights P e, n ∈ DataW.weightsAll P e l
 | a :: l, d, hd, n, hn => by
  simp only [DataW.weightsAll, List.mem_append]
  rcases List.mem_cons.1 hd with rfl | hd
  ·exact Or.inl hn
  ·exact Or.inr (weightsAll_mem hd n hn)
theorem trod_fields {t : TypeId} {fs : Array Field} {fuel : Nat} {cs : List Value} {x : DataW H × List MemPlace} (ht : P.underlying t = some (.struct fs)) (hs : Sz P t x.1) (h : DataW.trod enc P w base spare held fuel t cs = some x) :
    ∃ n, cs.length = P.cellsOf t ∧ ∀ (j : Nat) (f : Field), fs[j]? = some f → ∃ y, DataW.trod enc P w base spare held n f.type ((cs.drop f.offset).take (P.cellsOf f.type)) = some y ∧ Sz P f.type y.1 := by
 obtain ⟨ys, n', _, hy, hlen, hyl, hfd⟩ := DataW.trod_struct ht h
 refine ⟨n', hlen, fun j f hj => ?_⟩
 have hjl : j < fs.size := (Array.getElem?_eq_some_iff.1 hj).1
 have hys : ys[j]? = some (ys[j]'(by omega)) := List.getElem?_eq_getElem (by omega)
 refine ⟨_, (hfd j f hj).trans hys, fun n hn => hs n ?_⟩
 rw [hy]
 simp only [DataW.weights, ht]
 exact DataW.weights_mem_each (j := j) (t := f.type) (by simp [hj]) (by simp [hys]) n hn
theorem trod_elems {t e : TypeId} {fuel : Nat} {v : Value} {x : DataW H × List MemPlace} (ht : P.underlying t = some (.slice e)) {k : Nat} (hC : P.cellsOf e = k) (hpos : 0 < k) (hs : Sz P t x.1) (hby : decide (0 < P.bytesOf e) = true) (hf : DataW.trod enc P w base spare held fuel t [v] = some x) :
    ∃ (A : Option Addr) (n c : Nat), v = .slice A n c ∧ n ≤ reachBytes ∧ n ≤ c ∧ ∀ i, i < n → ∃ b off, A = some ⟨b, off, none⟩ ∧ b < w.heap.size ∧
     ∃ (cs : List Value) (y : DataW H × List MemPlace) (m : Nat), cs.length = k ∧ (∀ j, j < k → w.cell? ⟨b, off + (i * k + j), none⟩ = cs[j]?) ∧ DataW.trod enc P w base spare held m e cs = some y ∧ Sz P e y.1 := by
 rcases open_slice ht hf with ⟨h0, _⟩ | ⟨a, len, cap, m, k', D, Pl, hcs, _, hl, hm, hmm, hx, hi⟩
 ·simp at h0
  subst h0
  exact ⟨_, _, _, rfl, by simp, Nat.le_refl _, fun i hi => absurd hi (by omega)⟩
 ·simp at hcs
  subst hcs
  have hw : len * P.bytesOf e ≤ reachBytes := by
   have := hs ((len + (m - len)) * P.bytesOf e) (by rw [hx]; simp [DataW.weights, ht])
   exact Nat.le_trans (Nat.mul_le_mul_right _ (by omega)) this
  refine ⟨_, _, _, rfl, Nat.le_trans (Nat.le_mul_of_pos_right len (of_decide_eq_true hby)) hw, hl, ?_⟩
  have hnm : len ≤ m := by rw [hmm]; split <;> omega
  rw [hC] at hi
  have key : ∀ i, i < len → ∃ (cs : List Value) (y : DataW H × List MemPlace) (m : Nat), cs.length = k ∧ (∀ j, j < k → w.cell? (a.add (i * k + j)) = cs[j]?) ∧ DataW.trod enc P w base spare held m e cs = some y ∧ Sz P e y.1 := by
   intro i hin
   obtain ⟨cs', hc, ht'⟩ := hi i (by omega)
   obtain ⟨_, hcl, hat⟩ := World.cells?_some hc
   exact ⟨cs', _, _, hcl, fun j hj => by rw [← Go.Deep.add_add]; exact hat j hj, ht', fun n hn => hs n (by
    rw [hx]
    simp only [DataW.weights, ht, List.mem_cons, List.mem_append]
    exact Or.inr (Or.inl (weightsAll_mem (List.mem_map.2 ⟨i, List.mem_range.2 hin, rfl⟩) n hn)))⟩
  intro i hin
  obtain ⟨cs0, y0, m0, hl0, hc0, _, _⟩ := key 0 (by omega)
  have hu := hc0 0 hpos
  simp only [Nat.zero_mul, Nat.add_zero] at hu
  have hadd0 : a.add 0 = a := by simp [Addr.add]
  rw [hadd0, List.getElem?_eq_getElem (by omega)] at hu
  obtain ⟨b, off, rfl, hb⟩ := addr_of_cell hu
  obtain ⟨cs, y, m1, h1, h2, h3⟩ := key i hin
  exact ⟨b, off, rfl, hb, cs, y, m1, h1, fun j hj => by rw [← h2 j hj, addr_add_none], h3⟩
end
section
variable {H : Type} {enc : TypeId × Value → H} {P : Program} {w : World} {base : Nat} {spare : Nat → Bool} {held : Bool} {S : Nat → Prop}
def RowAt (S : Nat → Prop) (w : World) (row : List D) (cs : List Value) : Prop := row.length = cs.length ∧ ∀ (j : Nat) (d : D), row[j]? = some d → ∃ u, cs[j]? = some u ∧ Rd S w d u
theorem RowAt.one {d : D} {u : Value} (h : Rd S w d u) : RowAt S w [d] [u] := ⟨rfl, fun j d' hj => by
 match j, hj with
 | 0, hj => simp at hj; subst hj; exact ⟨u, rfl, h⟩
 | j + 1, hj => simp at hj⟩
theorem RowAt.cons {d : D} {u : Value} {row : List D} {cs : List Value} (h : Rd S w d u) (t : RowAt S w row cs) : RowAt S w (d :: row) (u :: cs) := ⟨by simp [t.1], fun j d' hj => by
 match j, hj with
 | 0, hj => simp at hj; subst hj; exact ⟨u, rfl, h⟩
 | j + 1, hj => exact t.2 j d' (by simpa using hj)⟩
theorem open_rd {α : Type} (hS : ∀ b, S b) (f : α → List D) (Q : α → Prop) {t e : TypeId} {fuel : Nat} {v : Value} {x : DataW H × List MemPlace} (ht : P.underlying t = some (.slice e)) {k : Nat} (hC : P.cellsOf e = k) (hpos : 0 < k) (hs : Sz P t x.1) (hby : decide (0 < P.bytesOf e) = true) (hf : DataW.trod enc P w base spare held fuel t [v] = some x)
    (hel : ∀ (cs : List Value) (y : DataW H × List MemPlace) (m : Nat), cs.length = k → DataW.trod enc P w base spare held m e cs = some y → Sz P e y.1 → ∃ x : α, RowAt S w (f x) cs ∧ Q x) :
    ∃ l : List α, Rd S w (.sl k (l.map f)) v ∧ l.length ≤ reachBytes ∧ ∀ x ∈ l, Q x := by
 obtain ⟨A, n, c, rfl, hn, hnc, hi⟩ := trod_elems ht hC hpos hs hby hf
 have hex : ∀ i, i < n → ∃ x : α, (∃ b off cs, A = some ⟨b, off, none⟩ ∧ b < w.heap.size ∧ List.length cs = k ∧ (∀ j, j < k → w.cell? ⟨b, off + (i * k + j), none⟩ = cs[j]?) ∧ RowAt S w (f x) cs) ∧ Q x := fun i hin => by
  obtain ⟨b, off, hA, hb, cs, y, m, hl, hc, ht', hsy⟩ := hi i hin
  obtain ⟨x, h1, h2⟩ := hel cs y m hl ht' hsy
  exact ⟨x, ⟨b, off, cs, hA, hb, hl, hc, h1⟩, h2⟩
 obtain ⟨l, hl, hE⟩ := pick_list hex
 refine ⟨l, ?_, by omega, fun x hx => by obtain ⟨i, hi', rfl⟩ := List.getElem_of_mem hx; exact (hE i hi').2⟩
 have hlen : (l.map f).length = n := by simp [hl]
 have hat : ∀ (i : Nat) (row : List D), (l.map f)[i]? = some row → ∃ (h : i < l.length), row = f l[i] := fun i row h => by
  rw [List.getElem?_map] at h
  obtain ⟨y, h1, h2⟩ := Option.map_eq_some_iff.1 h
  obtain ⟨h3, h4⟩ := List.getElem?_eq_some_iff.1 h1
  exact ⟨h3, by rw [← h2, h4]⟩
 by_cases h0 : n = 0
 ·subst h0
  obtain rfl : l = [] := List.length_eq_zero_iff.1 hl
  exact Rd.sl (rows := []) (A := A) (c := c) (b := 0) (o := 0) (cv := fun _ _ => undef) (by simp) (by simp) (fun h => absurd rfl h) (by simp) (by simp) (by simp)
 ·obtain ⟨⟨b, off, cs0, hA, hb, _⟩, _⟩ := hE 0 (by omega)
  have key : ∀ (i : Nat) (row : List D) (j : Nat) (d : D), (l.map f)[i]? = some row → row[j]? = some d → ∃ u, w.cell? ⟨b, off + (i * k + j), none⟩ = some u ∧ Rd S w d u := by
   intro i row j d h1 h2
   obtain ⟨hil, rfl⟩ := hat i row h1
   obtain ⟨⟨b', off', cs, hA', _, hcl, hc, hr⟩, _⟩ := hE i hil
   rw [hA] at hA'
   cases hA'
   obtain ⟨u, u1, u2⟩ := hr.2 j d h2
   have hjk : j < k := by
    rcases Nat.lt_or_ge j cs.length with h | h
    ·omega
    ·rw [List.getElem?_eq_none h] at u1; cases u1
   exact ⟨u, by rw [hc j hjk]; exact u1, u2⟩
  have := Rd.sl (S := S) (w := w) (sz := k) (rows := l.map f) (A := A) (c := c) (b := b) (o := off) (cv := fun i j => (w.cell? ⟨b, off + (i * k + j), none⟩).getD undef) (by omega) (by rw [hlen]; unfold reachBytes at hn; omega) (fun _ => ⟨hA, hb, hS b⟩)
   (fun i row h1 => by
    obtain ⟨hil, rfl⟩ := hat i row h1
    obtain ⟨⟨_, _, cs, _, _, hcl, _, hr⟩, _⟩ := hE i hil
    rw [hr.1, hcl])
   (fun i row j d h1 h2 => by obtain ⟨u, u1, u2⟩ := key i row j d h1 h2; simp [u1])
   (fun i row j d h1 h2 => by obtain ⟨u, u1, u2⟩ := key i row j d h1 h2; simpa [u1] using u2)
  rw [hlen] at this
  exact this
theorem trod_bool' {n : Nat} {t : TypeId} {v : Value} {y : DataW H × List MemPlace} (ht : P.underlying t = some .bool) (h : DataW.trod enc P w base spare held n t [v] = some y) : ∃ b, v = .bool b := by
 obtain ⟨b, h1, _⟩ := DataW.trod_bool ht h
 simp at h1
 exact ⟨b, h1⟩
end
section
variable {H : Type} {enc : TypeId × Value → H} {w : World} {base : Nat} {spare : Nat → Bool} {held : Bool} {S : Nat → Prop}
theorem trod_u16 {P : Program} {n : Nat} {t : TypeId} {v : Value} {y : DataW H × List MemPlace} (ht : P.underlying t = some (.int .u16)) (h : DataW.trod enc P w base spare held n t [v] = some y) : ∃ z, v = .int .u16 z ∧ (0 ≤ z ∧ z < 65536) := by
 obtain ⟨z, h1, _, h2⟩ := DataW.trod_int ht h
 simp at h1
 refine ⟨z, h1, ?_⟩
 simp [Lit.wf, IntKind.min, IntKind.max, IntKind.signed, IntKind.bits] at h2
 omega
theorem open_setsD (hS : ∀ b, S b) {fuel : Nat} {v : Value} {x : DataW H × List MemPlace} (hs : Sz Tryz.prog 22 x.1) (hf : DataW.trod enc Tryz.prog w base spare held fuel 22 [v] = some x) : ∃ l : List Int, Rd S w (.sl 1 (dSets l)) v ∧ u8s l := by
 obtain ⟨l, h1, h2, h3⟩ := open_rd (S := S) hS (fun x : Int => [.v (.int .u8 x)]) (fun x => 0 ≤ x ∧ x < 256) Tryz.underlying22 (k := 1) (by kernel_rfl) (by decide) hs (by kernel_rfl) hf (fun cs y m hl ht hsy => by
  match cs, hl with
  | [u], _ =>
   obtain ⟨z, rfl, hz⟩ := trod_u8 Tryz.underlying5 ht
   exact ⟨z, RowAt.one (.v rfl), by omega⟩)
 exact ⟨l, h1, h3⟩
theorem open_linksD (hS : ∀ b, S b) {fuel : Nat} {v : Value} {x : DataW H × List MemPlace} (hs : Sz Tryz.prog 23 x.1) (hf : DataW.trod enc Tryz.prog w base spare held fuel 23 [v] = some x) : ∃ l : List LinkD, Rd S w (.sl 6 (dLinks l)) v ∧ ∀ t ∈ l, linkOK t := by
 have cI : Tryz.prog.cellsOf 5 = 1 := by kernel_rfl
 have cB : Tryz.prog.cellsOf 4 = 1 := by kernel_rfl
 have cM : Tryz.prog.cellsOf 28 = 1 := by kernel_rfl
 obtain ⟨l, h1, h2, h3⟩ := open_rd (S := S) hS linkRow linkOK Tryz.underlying23 (k := 6) (by kernel_rfl) (by decide) hs (by kernel_rfl) hf (fun cs y m hl ht hsy => by
  obtain ⟨n', _, hfd⟩ := trod_fields Tryz.underlying103 hsy ht
  match cs, hl with
  | [u0, u1, u2, u3, u4, u5], _ =>
   obtain ⟨y0, t0, _⟩ := hfd 0 _ rfl
   obtain ⟨y1, t1, _⟩ := hfd 1 _ rfl
   obtain ⟨y2, t2, _⟩ := hfd 2 _ rfl
   obtain ⟨y3, t3, _⟩ := hfd 3 _ rfl
   obtain ⟨y4, t4, s4⟩ := hfd 4 _ rfl
   obtain ⟨y5, t5, s5⟩ := hfd 5 _ rfl
   simp [cI, cB, cM] at t0 t1 t2 t3 t4 t5
   obtain ⟨z0, rfl, a0⟩ := trod_u8 Tryz.underlying5 t0
   obtain ⟨z1, rfl, a1⟩ := trod_u8 Tryz.underlying5 t1
   obtain ⟨z2, rfl, a2⟩ := trod_u8 Tryz.underlying5 t2
   obtain ⟨z3, rfl⟩ := trod_bool' Tryz.underlying4 t3
   obtain ⟨z4, rfl, a4⟩ := trod_u16 Tryz.underlying28 t4
   obtain ⟨z5, rfl, a5⟩ := trod_u16 Tryz.underlying28 t5
   exact ⟨⟨z0, z1, z2, z3, z4, z5⟩, .cons (.v rfl) (.cons (.v rfl) (.cons (.v rfl) (.cons (.v rfl) (.cons (.v rfl) (.one (.v rfl)))))), ⟨by simp only; omega, by simp only; omega⟩, ⟨by simp only; omega, by simp only; omega⟩, ⟨by simp only; omega, by simp only; omega⟩, ⟨by simp only; omega, by simp only; omega⟩, ⟨by simp only; omega, by simp only; omega⟩⟩)
 exact ⟨l, h1, h3⟩
theorem open_case (hS : ∀ b, S b) {r : Reach} {b0 : Nat} {v : Value} {d : DataW H} {p : List MemPlace} (hv : Value.okWide Tryz.prog w r b0 27 v) (hs : Sz Tryz.prog 27 d) (h : DataW.Trod enc Tryz.prog w base spare held 27 v d p) :
    ∃ (x : DraftD) (R ch : List Int), (∀ (ρ : Key → Hd) (ok : Key → Prop), AVRel (CRel S ρ ok w) (.one true (caseC x R ch)) v) ∧ draftOK x ∧ u8s R ∧ u8s ch := by
 have cI : Tryz.prog.cellsOf 22 = 1 := by kernel_rfl
 have cT : Tryz.prog.cellsOf 23 = 1 := by kernel_rfl
 have c4 : Tryz.prog.cellsOf 25 = 4 := by kernel_rfl
 have c6 : Tryz.prog.cellsOf 27 = 6 := by kernel_rfl
 unfold Value.okWide at hv
 rw [Tryz.underlying27] at hv
 obtain ⟨cs, rfl, hsz, _⟩ := hv
 obtain ⟨fuel, hf⟩ := h
 obtain ⟨n, hl, hfd⟩ := trod_fields Tryz.underlying27 (by exact hs) hf
 rw [c6] at hsz
 obtain ⟨cs⟩ := cs
 match cs, hsz with
 | [u0, u1, u2, u3, u4, u5], _ =>
  obtain ⟨yd, td, sd⟩ := hfd 0 _ rfl
  obtain ⟨y4, t4, s4⟩ := hfd 1 _ rfl
  obtain ⟨y5, t5, s5⟩ := hfd 2 _ rfl
  simp [cI, c4, Value.cells] at td t4 t5
  obtain ⟨n', hl', hfe⟩ := trod_fields Tryz.underlying25 sd td
  obtain ⟨y0, t0, s0⟩ := hfe 0 _ rfl
  obtain ⟨y1, t1, s1⟩ := hfe 1 _ rfl
  obtain ⟨y2, t2, s2⟩ := hfe 2 _ rfl
  obtain ⟨y3, t3, s3⟩ := hfe 3 _ rfl
  clear hfd hf hl hfe
  simp [cI, cT, Value.cells] at t0 t1 t2 t3
  obtain ⟨l0, r0, q0⟩ := open_setsD hS s0 t0
  obtain ⟨l1, r1, q1⟩ := open_setsD hS s1 t1
  obtain ⟨l2, r2, q2⟩ := open_setsD hS s2 t2
  obtain ⟨l3, r3, q3⟩ := open_linksD hS s3 t3
  obtain ⟨l4, r4, q4⟩ := open_setsD hS s4 t4
  obtain ⟨l5, r5, q5⟩ := open_setsD hS s5 t5
  exact ⟨⟨l0, l1, l2, l3⟩, l4, l5, fun ρ ok => ⟨[u0, u1, u2, u3, u4, u5], .cons r0 (.cons r1 (.cons r2 (.cons r3 (.cons r4 (.cons r5 .nil))))), by simp⟩, ⟨q0, q1, q2, q3⟩, q4, q5⟩
end
def ρ0 : Key → Hd := fun _ => ⟨none, none, 0, 0, 0⟩
def S0 : Nat → Prop := Im (fun _ => False) ρ0 (lk ([] : List (Key × Box)))
theorem S0_all (b : Nat) : S0 b := ⟨fun h => h, fun q box hq => by cases hq⟩
def valArgs (xs : List (Bool × List C)) : List Arg := xs.map fun x => .val x.1 x.2
theorem argTm_val : ∀ (xs : List (Bool × List C)) (i t : Nat) (av : AV), lk (argTm i (valArgs xs)) t = some av → i ≤ t ∧ ∃ x, xs[t - i]? = some x ∧ av = .one x.1 x.2
 | [], i, t, av, h => by cases h
 | x :: xs, i, t, av, h => by
  have h' : (if t = i then some (AV.one x.1 x.2) else lk (argTm (i + 1) (valArgs xs)) t) = some av := h
  split at h'
  ·rename_i e
   subst e
   cases h'
   exact ⟨Nat.le_refl _, x, by simp, rfl⟩
  ·obtain ⟨h1, y, h2, h3⟩ := argTm_val xs (i + 1) t av h'
   refine ⟨by omega, y, ?_, h3⟩
   rw [show t - i = (t - (i + 1)) + 1 by omega, List.getElem?_cons_succ]
   exact h2
theorem argBx_val : ∀ (xs : List (Bool × List C)) (i : Nat), argBx i (valArgs xs) = []
 | [], _ => rfl
 | x :: xs, i => argBx_val xs (i + 1)
theorem calls_of_fn {P : Program} {f : FuncId} {xs : List (Bool × List C)} {vals : List Value} {w : World} (h : FnSound P f (valArgs xs) [] { vals := [(false, [.d (.v (.bool true))])] }) (hl : vals.length = xs.length)
    (hv : ∀ (i : Nat) (x : Bool × List C), xs[i]? = some x → AVRel (CRel S0 ρ0 (fun q => q.2 < 1) w) (.one x.1 x.2) (vals.getD i undef)) : Calls P f vals.toArray w fun e w' => e = .returned (.bool true) ∧ Below w.heap.size w w' := by
 have := h (fun _ => False) (fun _ => False) ρ0 ρ0 w vals (by simp [valArgs, hl])
  ⟨by simp, rfl, (fun t av ht => by
   obtain ⟨_, x, h2, rfl⟩ := argTm_val xs 0 t av ht
   have h3 : xs[t]? = some x := by simpa using h2
   refine ⟨by rw [hl]; exact (List.getElem?_eq_some_iff.1 h3).1, ?_⟩
   have e1 : (⟨vals.toArray, []⟩ : Act).tmps.getD t undef = vals.getD t undef := by simp [Array.getD_eq_getD_getElem?]
   rw [e1, argBx_val]
   exact hv t x h3), (fun q box hq => by rw [argBx_val] at hq; cases hq), (fun q1 b1 q2 b2 b e1 => by rw [argBx_val] at e1; cases e1), (fun q box b hq => by rw [argBx_val] at hq; cases hq), Keep.refl _ _, (fun b hb => False.elim hb), (fun q hq => ⟨by omega, rfl⟩)⟩
 refine this.mono ?_
 rintro e w' ⟨v, ρ', rfl, hR⟩
 have h1 := (hR.tm 0 _ rfl).2
 have h2 : v = .bool true := conV_sound (av := .one false [.d (.v (.bool true))]) (x := .bool true) rfl h1
 exact ⟨by rw [h2], hR.fr.below (Nat.le_refl _) (fun b _ h => h)⟩
end Go.Proofs.YtngjhkgcfabciaaGreat

namespace Go.Proofs.YtngjhkgcfabciaaGreat
open Go Go.RowKit
set_option linter.unusedSimpArgs false
set_option linter.unusedVariables false
theorem tabLen {p : Prob} (h : vpErr p = 0) (k : Nat) (hk : k < p.tabs.length) : ((p.tabs.getD k nilT).ok.length : Int) = p.vs.getD (p.tabs.getD k nilT).frm.toNat 0 := by
 have h4 := tabsErr_zero.1 (vp_parts.1 h).2.2.2
 have h := h4 (p.tabs.getD k nilT) (by rw [List.getD_eq_getElem?_getD, List.getElem?_eq_getElem hk]; exact List.getElem_mem hk)
 unfold tabErr at h
 split at h
 ·cases h
 ·rename_i h1
  split at h
  ·cases h
  ·rename_i h2
   split at h
   ·cases h
   ·rename_i h3
    simp only [Bool.not_eq_false, not_or, not_and] at h3
    have := h3.1
    simp only [sq, Bool.and_eq_true, beq_iff_eq] at this
    omega
theorem and_one (n : Nat) (x : Int) : ((BitVec.ofInt n x &&& BitVec.ofInt n 1).toNat) = (BitVec.ofInt n x).toNat &&& (BitVec.ofInt n 1).toNat := BitVec.toNat_and _ _
theorem bit01 (s v : Int) : bitOf s v = 0 ∨ bitOf s v = 1 := by
 show IntKind.u8.wrap (((BitVec.ofInt 8 (s / 2 ^ v.toNat) &&& BitVec.ofInt 8 1).toNat : Nat) : Int) = 0 ∨ IntKind.u8.wrap (((BitVec.ofInt 8 (s / 2 ^ v.toNat) &&& BitVec.ofInt 8 1).toNat : Nat) : Int) = 1
 rw [and_one, show (BitVec.ofInt 8 1).toNat = 1 from rfl, Nat.and_one_is_mod]
 generalize (BitVec.ofInt 8 (s / 2 ^ v.toNat)).toNat = z
 have : z % 2 = 0 ∨ z % 2 = 1 := by omega
 rcases this with e | e <;> rw [e]
 ·left; rfl
 ·right; rfl
theorem hasV_no {s v : Int} : bitOf s v = 0 ↔ hasV s v = false := by
 have := bit01 s v
 unfold hasV
 rw [decide_eq_false_iff_not]
 omega
theorem andI1 (k b : Nat) : bits BinOp.and IntKind.i64 ((k : Int) / 2 ^ ((b : Nat) : Int).toNat) 1 = 1 ↔ (k / 2 ^ b) % 2 = 1 := by
 rw [Int.toNat_natCast]
 have h1 : ((k : Int) / 2 ^ b) = ((k / 2 ^ b : Nat) : Int) := by push_cast; rfl
 rw [h1]
 show IntKind.i64.wrap (((BitVec.ofInt 64 ((k / 2 ^ b : Nat) : Int) &&& BitVec.ofInt 64 1).toNat : Nat) : Int) = 1 ↔ _
 rw [and_one, show (BitVec.ofInt 64 1).toNat = 1 from rfl, Nat.and_one_is_mod, BitVec.toNat_ofInt]
 generalize k / 2 ^ b = z
 have e : (((z : Int) % ((2 ^ 64 : Nat) : Int)).toNat) % 2 = z % 2 := by
  have : ((2 ^ 64 : Nat) : Int) = 18446744073709551616 := by decide
  rw [this]
  omega
 rw [e]
 have : z % 2 = 0 ∨ z % 2 = 1 := by omega
 rcases this with e | e <;> rw [e] <;> simp [IntKind.wrap, IntKind.bits, IntKind.signed]
def openI (l : List Int) (n : Nat) : List Int := (List.range n).flatMap fun i => if 0 ≤ l.getD i 0 then [(i : Int)] else []
theorem openI_yes {l : List Int} {n : Nat} (h : 0 ≤ l.getD n 0) : openI l (n + 1) = openI l n ++ [(n : Int)] := by
 unfold openI; rw [range_fm, if_pos h]
theorem openI_no {l : List Int} {n : Nat} (h : ¬ 0 ≤ l.getD n 0) : openI l (n + 1) = openI l n := by
 unfold openI; rw [range_fm, if_neg h, List.append_nil]
theorem openI_len {l : List Int} : ∀ {n : Nat}, n ≤ l.length → (openI l n).length = openN (l.take n)
 | 0, _ => by simp [openI, openN]
 | n + 1, h => by
  rw [openN_step (by omega)]
  by_cases h0 : 0 ≤ l.getD n 0
  ·rw [openI_yes h0, if_pos h0, List.length_append, openI_len (by omega)]; rfl
  ·rw [openI_no h0, if_neg h0, openI_len (by omega)]; rfl
theorem openI_at {l : List Int} : ∀ {n b : Nat}, n ≤ l.length → b < (openI l n).length → ∃ i : Nat, (openI l n).getD b 0 = (i : Int) ∧ i < n ∧ 0 ≤ l.getD i 0 ∧ openN (l.take i) = b
 | 0, b, _, hb => by simp [openI] at hb
 | n + 1, b, h, hb => by
  by_cases h0 : 0 ≤ l.getD n 0
  ·rw [openI_yes h0] at hb ⊢
   by_cases e : b < (openI l n).length
   ·obtain ⟨i, h1, h2, h3, h4⟩ := openI_at (by omega) e
    refine ⟨i, ?_, by omega, h3, h4⟩
    rw [List.getD_eq_getElem?_getD, List.getElem?_append_left e, ← List.getD_eq_getElem?_getD]; exact h1
   ·rw [List.length_append] at hb
    have e : b = (openI l n).length := by simp at hb; omega
    refine ⟨n, ?_, by omega, h0, ?_⟩
    ·rw [e, List.getD_eq_getElem?_getD, List.getElem?_append_right (Nat.le_refl _), Nat.sub_self]; rfl
    ·rw [e, openI_len (by omega)]
  ·rw [openI_no h0] at hb ⊢
   obtain ⟨i, h1, h2, h3, h4⟩ := openI_at (by omega) hb
   exact ⟨i, h1, by omega, h3, h4⟩
theorem openN_mono (l : List Int) : ∀ n, openN (l.take n) ≤ openN l := by
 induction l with
 | nil => intro n; simp
 | cons x l ih =>
  intro n
  cases n with
  | zero => simp [openN]
  | succ n =>
   rw [List.take_succ_cons]
   unfold openN
   have := ih n
   omega
theorem openN_lt {l : List Int} {j : Nat} (hj : j < l.length) (h : 0 ≤ l.getD j 0) : openN (l.take j) < openN l := by
 have h1 := openN_step hj
 rw [if_pos h] at h1
 have := openN_mono l (j + 1)
 omega
theorem openN_inj {l : List Int} {i j : Nat} (hi : i < l.length) (hj : j < l.length) (h1 : 0 ≤ l.getD i 0) (h2 : 0 ≤ l.getD j 0) (h : openN (l.take i) = openN (l.take j)) : i = j := by
 have key : ∀ {a b : Nat}, a < b → b < l.length → 0 ≤ l.getD a 0 → openN (l.take a) < openN (l.take b) := by
  intro a b hab hb h0
  have e := openN_lt (l := l.take b) (j := a) (by rw [List.length_take]; omega) (by
   rw [List.getD_eq_getElem?_getD, List.getElem?_take_of_lt hab, ← List.getD_eq_getElem?_getD]; exact h0)
  rwa [List.take_take, Nat.min_eq_left (by omega)] at e
 rcases Nat.lt_trichotomy i j with g | g | g
 ·have := key g hj h1; omega
 ·exact g
 ·have := key g hi h2; omega
def abB (l : List Int) (k b : Nat) : List Int := (List.range l.length).map fun j => if 0 ≤ l.getD j 0 ∧ openN (l.take j) < b ∧ (k / 2 ^ openN (l.take j)) % 2 = 1 then -1 else l.getD j 0
theorem abB_len {l : List Int} {k b : Nat} : (abB l k b).length = l.length := by simp [abB]
theorem map_range_get {α : Type} {f : Nat → α} {n j : Nat} {d : α} (h : j < n) : ((List.range n).map f).getD j d = f j := by
 rw [List.getD_eq_getElem?_getD, List.getElem?_map, List.getElem?_range h]; rfl
theorem list_ext {l r : List Int} (h : l.length = r.length) (hh : ∀ j, j < l.length → l.getD j 0 = r.getD j 0) : l = r := by
 apply List.ext_getElem h
 intro j h1 h2
 have := hh j h1
 rwa [List.getD_eq_getElem?_getD, List.getElem?_eq_getElem h1, List.getD_eq_getElem?_getD, List.getElem?_eq_getElem h2] at this
theorem abB_get {l : List Int} {k b j : Nat} (h : j < l.length) : (abB l k b).getD j 0 = if 0 ≤ l.getD j 0 ∧ openN (l.take j) < b ∧ (k / 2 ^ openN (l.take j)) % 2 = 1 then -1 else l.getD j 0 := map_range_get h
theorem abB_0 {l : List Int} {k : Nat} : abB l k 0 = l := by
 refine list_ext abB_len fun j hj => ?_
 rw [abB_len] at hj
 rw [abB_get hj, if_neg (by omega)]
theorem abn_take {l : List Int} {k : Nat} : ∀ n, n ≤ l.length → abn (l.take n) k = (List.range n).map fun j => if 0 ≤ l.getD j 0 ∧ (k / 2 ^ openN (l.take j)) % 2 = 1 then -1 else l.getD j 0
 | 0, _ => by simp [abn]
 | n + 1, h => by rw [abn_step (by omega), abn_take n (by omega), List.range_succ, List.map_append]; rfl
theorem abB_all {l : List Int} {k b : Nat} (hb : openN l ≤ b) : abB l k b = abn l k := by
 have h1 := abn_take (l := l) (k := k) l.length (Nat.le_refl _)
 rw [List.take_length] at h1
 rw [h1]
 unfold abB
 refine List.map_congr_left fun j hj => ?_
 have hj := List.mem_range.1 hj
 by_cases h0 : 0 ≤ l.getD j 0
 ·have := openN_lt hj h0
  by_cases h2 : (k / 2 ^ openN (l.take j)) % 2 = 1
  ·rw [if_pos ⟨h0, by omega, h2⟩, if_pos ⟨h0, h2⟩]
  ·rw [if_neg (fun a => h2 a.2.2), if_neg (fun a => h2 a.2)]
 ·rw [if_neg (fun a => h0 a.1), if_neg (fun a => h0 a.1)]
theorem abB_keep {l : List Int} {k b i : Nat} (hi : i < l.length) (h0 : 0 ≤ l.getD i 0) (hb : openN (l.take i) = b) (hn : ¬ (k / 2 ^ b) % 2 = 1) : abB l k (b + 1) = abB l k b := by
 refine list_ext (by rw [abB_len, abB_len]) fun j hj => ?_
 rw [abB_len] at hj
 rw [abB_get hj, abB_get hj]
 by_cases e : 0 ≤ l.getD j 0 ∧ openN (l.take j) = b
 ·have := openN_inj hi hj h0 e.1 (by omega)
  subst this
  rw [if_neg (by rw [hb]; exact fun a => hn a.2.2), if_neg (by rw [hb]; exact fun a => hn a.2.2)]
 ·by_cases c : 0 ≤ l.getD j 0 ∧ openN (l.take j) < b ∧ (k / 2 ^ openN (l.take j)) % 2 = 1
  ·rw [if_pos c, if_pos ⟨c.1, by omega, c.2.2⟩]
  ·rw [if_neg c, if_neg (fun a => c ⟨a.1, by have := a.2.1; have : ¬ openN (l.take j) = b := fun q => e ⟨a.1, q⟩; omega, a.2.2⟩)]
theorem abB_set {l : List Int} {k b i : Nat} (hi : i < l.length) (h0 : 0 ≤ l.getD i 0) (hb : openN (l.take i) = b) (hn : (k / 2 ^ b) % 2 = 1) : abB l k (b + 1) = (abB l k b).set i (-1) := by
 refine list_ext (by rw [List.length_set, abB_len, abB_len]) fun j hj => ?_
 rw [abB_len] at hj
 rw [abB_get hj]
 by_cases e : j = i
 ·subst e
  rw [if_pos ⟨h0, by omega, by rw [hb]; exact hn⟩, List.getD_eq_getElem?_getD, List.getElem?_set_self (by rw [abB_len]; exact hj)]; rfl
 ·have e5 : ((abB l k b).set i (-1)).getD j 0 = (abB l k b).getD j 0 := by rw [List.getD_eq_getElem?_getD, List.getElem?_set_ne (fun a => e a.symm), ← List.getD_eq_getElem?_getD]
  rw [e5, abB_get hj]
  by_cases c : 0 ≤ l.getD j 0 ∧ openN (l.take j) < b ∧ (k / 2 ^ openN (l.take j)) % 2 = 1
  ·rw [if_pos c, if_pos ⟨c.1, by omega, c.2.2⟩]
  ·rw [if_neg c, if_neg (fun a => c ⟨a.1, by
     have h1 := a.2.1
     have : ¬ openN (l.take j) = b := fun q => e (openN_inj hj hi a.1 h0 (by omega))
     omega, a.2.2⟩)]
end Go.Proofs.YtngjhkgcfabciaaGreat

namespace Go.Proofs.YtngjhkgcfabciaaGreat
open Go Go.RowKit
set_option linter.unusedSimpArgs false
set_option linter.unusedVariables false
theorem bits_comm (k : IntKind) (a b : Int) : bits .xor k a b = bits .xor k b a := by
 unfold bits
 simp only [BitVec.xor_comm]
theorem bits32 (op : BinOp) (a b : Int) : 0 ≤ bits op .u32 a b ∧ bits op .u32 a b < 4294967296 := by
 unfold bits
 have hw : ∀ n : Nat, 0 ≤ IntKind.u32.wrap (n : Int) ∧ IntKind.u32.wrap (n : Int) < 4294967296 := fun n => by
  show 0 ≤ (n : Int) % 4294967296 ∧ (n : Int) % 4294967296 < 4294967296
  omega
 exact hw _
def accV (s : ByteArray) : Nat → Int
 | 0 => 0
 | i + 1 => accV s i + byteN s i % 128 * 128 ^ i
theorem pow128 : ∀ i : Nat, (0 : Int) < 128 ^ i
 | 0 => by decide
 | i + 1 => by rw [Int.pow_succ]; have := pow128 i; omega
theorem pow128_le (i k : Nat) : (128 : Int) ^ i ≤ 128 ^ (i + k) := by
 induction k with
 | zero => exact Int.le_refl _
 | succ k ih => rw [← Nat.add_assoc, Int.pow_succ]; have := pow128 (i + k); omega
theorem accV_rng (s : ByteArray) : ∀ i : Nat, 0 ≤ accV s i ∧ accV s i < 128 ^ i
 | 0 => by show (0 : Int) ≤ 0 ∧ (0 : Int) < 1; decide
 | i + 1 => by
  have h := accV_rng s i
  have hp := pow128 i
  have hb : 0 ≤ byteN s i % 128 ∧ byteN s i % 128 ≤ 127 := by omega
  have h1 : 0 ≤ byteN s i % 128 * 128 ^ i := Int.mul_nonneg hb.1 (by omega)
  have h2 : byteN s i % 128 * 128 ^ i ≤ 127 * 128 ^ i := Int.mul_le_mul_of_nonneg_right hb.2 (by omega)
  rw [Int.pow_succ]
  show 0 ≤ accV s i + byteN s i % 128 * 128 ^ i ∧ accV s i + byteN s i % 128 * 128 ^ i < _
  omega
def getV (s : ByteArray) : Nat → Nat → Int × Int × Int
 | 0, _ => (0, 0, 10)
 | f + 1, i => if s.size ≤ i then (0, 0, 10) else if i = 9 ∧ 1 < byteN s i then (0, 0, 7) else if 128 ≤ byteN s i then getV s f (i + 1) else if byteN s i = 0 ∧ 0 < i then (0, 0, 2) else (accV s (i + 1), (i : Int) + 1, 0)
def getP (s : ByteArray) : Int × Int × Int := getV s 10 0
theorem getV_at {s : ByteArray} {i : Nat} (hi : i ≤ 9) : getV s (10 - i) i = if s.size ≤ i then (0, 0, 10) else if i = 9 ∧ 1 < byteN s i then (0, 0, 7) else if 128 ≤ byteN s i then getV s (10 - (i + 1)) (i + 1) else if byteN s i = 0 ∧ 0 < i then (0, 0, 2) else (accV s (i + 1), (i : Int) + 1, 0) := by
 rw [show 10 - i = (10 - (i + 1)) + 1 by omega]
 rfl
theorem get_end {s : ByteArray} {i : Nat} (hi : i ≤ 10) (h : getV s (10 - i) i = getP s) (hs : 10 ≤ i ∨ s.size ≤ i) : getP s = (0, 0, 10) := by
 rw [← h]
 by_cases h9 : i ≤ 9
 ·rw [getV_at h9, if_pos (by omega)]
 ·obtain rfl : i = 10 := by omega
  rfl
theorem get_big {s : ByteArray} {i : Nat} (hi : i ≤ 9) (h : getV s (10 - i) i = getP s) (hs : i < s.size) (h9 : i = 9 ∧ 1 < byteN s i) : getP s = (0, 0, 7) := by
 rw [← h, getV_at hi, if_neg (by omega), if_pos h9]
theorem get_next {s : ByteArray} {i : Nat} (hi : i ≤ 9) (h : getV s (10 - i) i = getP s) (hs : i < s.size) (h9 : ¬ (i = 9 ∧ 1 < byteN s i)) (hb : 128 ≤ byteN s i) : getV s (10 - (i + 1)) (i + 1) = getP s ∧ i + 1 ≤ 9 := by
 rw [getV_at hi, if_neg (by omega), if_neg h9, if_pos hb] at h
 exact ⟨h, by omega⟩
theorem get_long {s : ByteArray} {i : Nat} (hi : i ≤ 9) (h : getV s (10 - i) i = getP s) (hs : i < s.size) (hb : byteN s i = 0 ∧ 0 < i) : getP s = (0, 0, 2) := by
 rw [← h, getV_at hi, if_neg (by omega), if_neg (by omega), if_neg (by omega), if_pos hb]
theorem get_ok {s : ByteArray} {i : Nat} (hi : i ≤ 9) (h : getV s (10 - i) i = getP s) (hs : i < s.size) (h9 : ¬ (i = 9 ∧ 1 < byteN s i)) (hb : ¬ 128 ≤ byteN s i) (h0 : ¬ (byteN s i = 0 ∧ 0 < i)) : getP s = (accV s (i + 1), (i : Int) + 1, 0) := by
 rw [← h, getV_at hi, if_neg (by omega), if_neg h9, if_neg hb, if_neg h0]
theorem getV_rng {s : ByteArray} : ∀ f i : Nat, f + i ≤ 10 → (getV s f i).2.2 = 0 → (i : Int) < (getV s f i).2.1 ∧ (getV s f i).2.1 ≤ s.size ∧ 0 ≤ (getV s f i).1 ∧ (getV s f i).1 < 18446744073709551616 ∧ (getV s f i).2.1 ≤ 10
 | 0, i, _, h => by cases h
 | f + 1, i, hf, h => by
  unfold getV at h ⊢
  split at h
  ·cases h
  ·rename_i h1
   split at h
   ·cases h
   ·rename_i h2
    split at h
    ·rename_i h3
     rw [if_neg h1, if_neg h2, if_pos h3]
     have := getV_rng f (i + 1) (by omega) h
     omega
    ·rename_i h3
     split at h
     ·cases h
     ·rename_i h4
      rw [if_neg h1, if_neg h2, if_neg h3, if_neg h4]
      have ha := accV_rng s (i + 1)
      have hb := byteN_rng s i
      refine ⟨by dsimp only; omega, by dsimp only; omega, ha.1, ?_, by dsimp only; omega⟩
      by_cases h9 : i = 9
      ·subst h9
       have ha := accV_rng s 9
       have e : accV s (9 + 1) = accV s 9 + byteN s 9 % 128 * 128 ^ 9 := rfl
       show accV s (9 + 1) < _
       rw [e]
       have e9 : (128 : Int) ^ 9 = 9223372036854775808 := by decide
       rw [e9] at ha ⊢
       have : byteN s 9 = 0 ∨ byteN s 9 = 1 := by omega
       rcases this with b | b <;> rw [b] <;> omega
      ·have hle : (128 : Int) ^ (i + 1) ≤ 128 ^ 9 := by have := pow128_le (i + 1) (9 - (i + 1)); rwa [show i + 1 + (9 - (i + 1)) = 9 by omega] at this
       exact Int.lt_of_lt_of_le ha.2 (Int.le_trans hle (by decide))
theorem getP_rng {s : ByteArray} (h : (getP s).2.2 = 0) : 0 < (getP s).2.1 ∧ (getP s).2.1 ≤ s.size ∧ 0 ≤ (getP s).1 ∧ (getP s).1 < 18446744073709551616 ∧ (getP s).2.1 ≤ 10 := getV_rng 10 0 (by omega) h
theorem or_add {a b : Int} {k : Nat} (ha : 0 ≤ a ∧ a < 2 ^ k) (hb : 0 ≤ b) (hs : b * 2 ^ k < 18446744073709551616) (hk : k < 64) : bits .or .u64 a (b * 2 ^ k) = a + b * 2 ^ k := by
 obtain ⟨x, rfl⟩ := Int.eq_ofNat_of_zero_le ha.1
 obtain ⟨y, rfl⟩ := Int.eq_ofNat_of_zero_le hb
 have e2 : ((2 : Int) ^ k) = ((2 ^ k : Nat) : Int) := by rw [Int.natCast_pow]; rfl
 rw [e2] at ha hs ⊢
 have hx : x < 2 ^ k := by have := ha.2; omega
 have hy : y * 2 ^ k < 18446744073709551616 := by have : ((y * 2 ^ k : Nat) : Int) = (y : Int) * ((2 ^ k : Nat) : Int) := Int.natCast_mul _ _; omega
 have hk2 : 2 ^ k ≤ 2 ^ 63 := Nat.pow_le_pow_right (by decide) (by omega)
 rw [← Int.natCast_mul]
 unfold bits
 have h1 : (BitVec.ofInt IntKind.u64.bits ((x : Nat) : Int) ||| BitVec.ofInt IntKind.u64.bits ((y * 2 ^ k : Nat) : Int)).toNat = x + y * 2 ^ k := by
  show (BitVec.ofInt 64 ((x : Nat) : Int) ||| BitVec.ofInt 64 ((y * 2 ^ k : Nat) : Int)).toNat = _
  rw [BitVec.toNat_or, BitVec.toNat_ofInt, BitVec.toNat_ofInt]
  rw [show ((x : Int) % ((2 ^ 64 : Nat) : Int)).toNat = x by omega, show (((y * 2 ^ k : Nat) : Int) % ((2 ^ 64 : Nat) : Int)).toNat = y * 2 ^ k by omega]
  rw [Nat.mul_comm y, Nat.or_comm, ← Nat.two_pow_add_eq_or_of_lt hx y, Nat.add_comm]
 show IntKind.u64.wrap ((BitVec.ofInt IntKind.u64.bits ((x : Nat) : Int) ||| BitVec.ofInt IntKind.u64.bits ((y * 2 ^ k : Nat) : Int)).toNat : Int) = _
 rw [h1]
 have : x + y * 2 ^ k < 18446744073709551616 := by
  have h3 : y * 2 ^ k + 2 ^ k ≤ 18446744073709551616 := by
   have h4 : (18446744073709551616 : Nat) = 2 ^ (64 - k) * 2 ^ k := by rw [← Nat.pow_add, show 64 - k + k = 64 by omega]
   have h5 : y < 2 ^ (64 - k) := by
    rcases Nat.lt_or_ge y (2 ^ (64 - k)) with g | g
    ·exact g
    ·have := Nat.mul_le_mul_right (2 ^ k) g; omega
   rw [h4, ← Nat.succ_mul]
   exact Nat.mul_le_mul_right _ h5
  omega
 rw [wrap_u64 (by omega), Int.natCast_add]
theorem and127 : ∀ b : Int, 0 ≤ b ∧ b < 256 → bits .and .u8 b 127 = b % 128 := by
 have h : ((List.range 256).all fun (n : Nat) => bits .and .u8 (n : Int) 127 == (n : Int) % 128) = true := by decide +kernel
 intro b hb
 have := List.all_eq_true.1 h b.toNat (List.mem_range.2 (by omega))
 rw [show ((b.toNat : Nat) : Int) = b by omega] at this
 simpa using this
theorem pow7 (i : Nat) : (2 : Int) ^ (7 * i) = 128 ^ i := by rw [Int.pow_mul]; rfl
theorem mul_lt64 {s : ByteArray} {i : Nat} {b : Int} (hi : i ≤ 9) (h9 : i = 9 → b ≤ 1) (hb : 0 ≤ b ∧ b ≤ 127) : 0 ≤ b * 128 ^ i ∧ b * 128 ^ i + accV s i < 18446744073709551616 := by
 have ha := accV_rng s i
 have hp := pow128 i
 have h0 := Int.mul_nonneg hb.1 (Int.le_of_lt hp)
 refine ⟨h0, ?_⟩
 by_cases h : i = 9
 ·subst h
  have e9 : (128 : Int) ^ 9 = 9223372036854775808 := by decide
  rw [e9] at ha ⊢
  have := h9 rfl
  omega
 ·have h2 : b * 128 ^ i ≤ 127 * 128 ^ i := Int.mul_le_mul_of_nonneg_right hb.2 (by omega)
  have h3 := pow128_le i (8 - i)
  rw [show i + (8 - i) = 8 by omega, show (128 : Int) ^ 8 = 72057594037927936 by decide] at h3
  omega
theorem get_or {s : ByteArray} {i : Nat} (hi : i ≤ 9) (h9 : ¬ (i = 9 ∧ 1 < byteN s i)) : bits .or .u64 (accV s i) (IntKind.u64.wrap (byteN s i % 128 * 2 ^ (7 * i))) = accV s (i + 1) := by
 have hb := byteN_rng s i
 have hm := mul_lt64 (s := s) (i := i) (b := byteN s i % 128) hi (by omega) (by omega)
 have ha := accV_rng s i
 rw [← pow7] at hm ha
 rw [wrap_u64 (by omega), or_add ha (by omega) (by omega) (by omega), pow7]
 rfl
theorem get_add {s : ByteArray} {i : Nat} (hi : i ≤ 9) (h9 : ¬ (i = 9 ∧ 1 < byteN s i)) : IntKind.u64.wrap (accV s i + IntKind.u64.wrap ((byteN s i).tmod 128 * 128 ^ i)) = accV s (i + 1) := by
 have hb := byteN_rng s i
 have hm := mul_lt64 (s := s) (i := i) (b := byteN s i % 128) hi (by omega) (by omega)
 have ha := accV_rng s i
 rw [Int.tmod_eq_emod_of_nonneg hb.1, wrap_u64 (n := byteN s i % 128 * 128 ^ i) (by omega), wrap_u64 (by omega)]
 rfl
theorem unit_next {i : Nat} (hi : i ≤ 8) : IntKind.u64.wrap (128 ^ i * 128) = 128 ^ (i + 1) := by
 rw [← Int.pow_succ]
 have h1 := pow128 (i + 1)
 have h2 := pow128_le (i + 1) (9 - (i + 1))
 rw [show i + 1 + (9 - (i + 1)) = 9 by omega, show (128 : Int) ^ 9 = 9223372036854775808 by decide] at h2
 exact wrap_u64 (by omega)
def crcB (c : Int) : Int := if c % 2 = 1 then bits .xor .u32 (c / 2) 3988292384 else c / 2
def itC : Nat → Int → Int
 | 0, c => c
 | k + 1, c => crcB (itC k c)
theorem crcB_rng {c : Int} (h : 0 ≤ c ∧ c < 4294967296) : 0 ≤ crcB c ∧ crcB c < 4294967296 := by
 unfold crcB
 split
 ·exact bits32 _ _ _
 ·omega
theorem itC_rng {c : Int} (h : 0 ≤ c ∧ c < 4294967296) : ∀ k, 0 ≤ itC k c ∧ itC k c < 4294967296
 | 0 => h
 | k + 1 => crcB_rng (itC_rng h k)
def crcA (s : ByteArray) (c : Int) : Nat → Int
 | 0 => c
 | k + 1 => itC 8 (bits .xor .u32 (crcA s c k) (byteN s k))
theorem crcA_rng (s : ByteArray) {c : Int} (h : 0 ≤ c ∧ c < 4294967296) : ∀ k, 0 ≤ crcA s c k ∧ crcA s c k < 4294967296
 | 0 => h
 | k + 1 => itC_rng (bits32 _ _ _) 8
def extP (c : Int) (s : ByteArray) : Int := bits .xor .u32 (crcA s (bits .xor .u32 c 4294967295) s.size) 4294967295
theorem extP_eq (c : Int) (s : ByteArray) : bits .xor .u32 (crcA s (bits .xor .u32 c 4294967295) s.size) 4294967295 = extP c s := by unfold extP; rfl
theorem crcA_next (s : ByteArray) (c : Int) (k : Nat) : itC 8 (bits .xor .u32 (crcA s c k) (byteN s k)) = crcA s c (k + 1) := by rw [crcA]
theorem extP_rng (c : Int) (s : ByteArray) : 0 ≤ extP c s ∧ extP c s < 4294967296 := bits32 _ _ _
theorem and1 {c : Int} (h : 0 ≤ c ∧ c < 4294967296) : bits .and .u32 c 1 = c % 2 := by
 unfold bits
 obtain ⟨x, rfl⟩ := Int.eq_ofNat_of_zero_le h.1
 have h1 : (BitVec.ofInt IntKind.u32.bits ((x : Nat) : Int) &&& BitVec.ofInt IntKind.u32.bits 1).toNat = x % 2 := by
  show (BitVec.ofInt 32 ((x : Nat) : Int) &&& BitVec.ofInt 32 1).toNat = _
  rw [BitVec.toNat_and, BitVec.toNat_ofInt, BitVec.toNat_ofInt]
  rw [show ((x : Int) % ((2 ^ 32 : Nat) : Int)).toNat = x by omega, show ((1 : Int) % ((2 ^ 32 : Nat) : Int)).toNat = 1 by decide]
  exact Nat.and_one_is_mod x
 show IntKind.u32.wrap ((BitVec.ofInt IntKind.u32.bits ((x : Nat) : Int) &&& BitVec.ofInt IntKind.u32.bits 1).toNat : Int) = _
 rw [h1, wrap_u32 (by omega)]
 omega
def be4 (c : Int) : List Int := [c / 2 ^ 24 % 256, c / 2 ^ 16 % 256, c / 2 ^ 8 % 256, c % 256]
def rd4 (s : ByteArray) (k : Nat) : Int := byteN s k * 16777216 + byteN s (k + 1) * 65536 + byteN s (k + 2) * 256 + byteN s (k + 3)
theorem or32 {a b : Int} {k : Nat} (ha : 0 ≤ a ∧ a < 2 ^ k) (hb : 0 ≤ b ∧ b < 256) (hk : k ≤ 24) : bits .or .u32 (b * 2 ^ k) a = b * 2 ^ k + a := by
 obtain ⟨x, rfl⟩ := Int.eq_ofNat_of_zero_le ha.1
 obtain ⟨y, rfl⟩ := Int.eq_ofNat_of_zero_le hb.1
 have e2 : ((2 : Int) ^ k) = ((2 ^ k : Nat) : Int) := by rw [Int.natCast_pow]; rfl
 rw [e2] at ha ⊢
 have hx : x < 2 ^ k := by have := ha.2; omega
 have hk2 : 2 ^ k ≤ 2 ^ 24 := Nat.pow_le_pow_right (by decide) hk
 have hy : y * 2 ^ k ≤ 255 * 2 ^ k := Nat.mul_le_mul_right _ (by omega)
 have hy2 : 255 * 2 ^ k ≤ 255 * 16777216 := Nat.mul_le_mul_left _ hk2
 rw [← Int.natCast_mul]
 unfold bits
 have h1 : (BitVec.ofInt IntKind.u32.bits ((y * 2 ^ k : Nat) : Int) ||| BitVec.ofInt IntKind.u32.bits ((x : Nat) : Int)).toNat = y * 2 ^ k + x := by
  show (BitVec.ofInt 32 ((y * 2 ^ k : Nat) : Int) ||| BitVec.ofInt 32 ((x : Nat) : Int)).toNat = _
  rw [BitVec.toNat_or, BitVec.toNat_ofInt, BitVec.toNat_ofInt]
  rw [show ((x : Int) % ((2 ^ 32 : Nat) : Int)).toNat = x by omega, show (((y * 2 ^ k : Nat) : Int) % ((2 ^ 32 : Nat) : Int)).toNat = y * 2 ^ k by omega]
  rw [Nat.mul_comm y, ← Nat.two_pow_add_eq_or_of_lt hx y]
 show IntKind.u32.wrap ((BitVec.ofInt IntKind.u32.bits ((y * 2 ^ k : Nat) : Int) ||| BitVec.ofInt IntKind.u32.bits ((x : Nat) : Int)).toNat : Int) = _
 rw [h1, wrap_u32 (by omega), Int.natCast_add]
theorem or_assoc32 (a b c : Int) (ha : 0 ≤ a ∧ a < 4294967296) (hb : 0 ≤ b ∧ b < 4294967296) (hc : 0 ≤ c ∧ c < 4294967296) : bits .or .u32 (bits .or .u32 a b) c = bits .or .u32 a (bits .or .u32 b c) := by
 have back : ∀ x y : Int, 0 ≤ x ∧ x < 4294967296 → 0 ≤ y ∧ y < 4294967296 → BitVec.ofInt 32 (bits .or .u32 x y) = BitVec.ofInt 32 x ||| BitVec.ofInt 32 y := fun x y hx hy => by
  show BitVec.ofInt 32 (IntKind.u32.wrap ((BitVec.ofInt 32 x ||| BitVec.ofInt 32 y).toNat : Int)) = _
  have hl := (BitVec.ofInt 32 x ||| BitVec.ofInt 32 y).isLt
  rw [wrap_u32 (by omega)]
  apply BitVec.eq_of_toNat_eq
  rw [BitVec.toNat_ofInt]
  omega
 show IntKind.u32.wrap ((BitVec.ofInt 32 (bits .or .u32 a b) ||| BitVec.ofInt 32 c).toNat : Int) = IntKind.u32.wrap ((BitVec.ofInt 32 a ||| BitVec.ofInt 32 (bits .or .u32 b c)).toNat : Int)
 rw [back a b ha hb, back b c hb hc, BitVec.or_assoc]
theorem or_rd4 (s : ByteArray) (k : Nat) : bits .or .u32 (bits .or .u32 (bits .or .u32 (IntKind.u32.wrap (byteN s k * 2 ^ 24)) (IntKind.u32.wrap (byteN s (k + 1) * 2 ^ 16))) (IntKind.u32.wrap (byteN s (k + 2) * 2 ^ 8))) (byteN s (k + 3)) = rd4 s k := by
 have h0 := byteN_rng s k
 have h1 := byteN_rng s (k + 1)
 have h2 := byteN_rng s (k + 2)
 have h3 := byteN_rng s (k + 3)
 have p24 : (2 : Int) ^ 24 = 16777216 := by decide
 have p16 : (2 : Int) ^ 16 = 65536 := by decide
 have p8 : (2 : Int) ^ 8 = 256 := by decide
 rw [wrap_u32 (by omega), wrap_u32 (by omega), wrap_u32 (by omega)]
 have e3 : bits .or .u32 (byteN s (k + 2) * 2 ^ 8) (byteN s (k + 3)) = byteN s (k + 2) * 2 ^ 8 + byteN s (k + 3) := or32 (by omega) h2 (by omega)
 have e2 : bits .or .u32 (byteN s (k + 1) * 2 ^ 16) (byteN s (k + 2) * 2 ^ 8 + byteN s (k + 3)) = byteN s (k + 1) * 2 ^ 16 + (byteN s (k + 2) * 2 ^ 8 + byteN s (k + 3)) := or32 (by omega) h1 (by omega)
 have e1 : bits .or .u32 (byteN s k * 2 ^ 24) (byteN s (k + 1) * 2 ^ 16 + (byteN s (k + 2) * 2 ^ 8 + byteN s (k + 3))) = byteN s k * 2 ^ 24 + (byteN s (k + 1) * 2 ^ 16 + (byteN s (k + 2) * 2 ^ 8 + byteN s (k + 3))) := or32 (by omega) h0 (by omega)
 rw [or_assoc32 _ _ _ (bits32 _ _ _) (by omega) (by omega), e3, or_assoc32 _ _ _ (by omega) (by omega) (by omega), e2, e1]
 unfold rd4
 omega
end Go.Proofs.YtngjhkgcfabciaaGreat

