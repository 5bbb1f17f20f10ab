/- Rules of runs and contracts of functions, for the claims of one seat. -/
import Derived.Test.YtbdjcgjdmhgnmaaGreatQA1
import Derived.Test.YtbdjcgjdmhgnmaaGreatQA14
import Derived.Test.YtbdjcgjdmhgnmaaGreatQA29
namespace Go.Proofs.YtbdjcgjdmhgnmaaGreat
open Go.ChangeShapes Go.WideShapes Go.ChangeAt Go.RowKit Go.Joins Go.Deep
set_option linter.unusedSimpArgs false
set_option linter.unusedVariables false
set_option maxRecDepth 100000
theorem pick_list {α : Type} {n : Nat} {p : Nat → α → Prop} (h : ∀ i, i < n → ∃ e, p i e) : ∃ l : List α, l.length = n ∧ ∀ i (hi : i < l.length), p i l[i] := by
 induction n with
 | zero => exact ⟨[], rfl, fun i hi => by simp at hi⟩
 | succ n ih =>
  obtain ⟨l, h1, h2⟩ := ih (fun i hi => h i (by omega))
  obtain ⟨e, he⟩ := h n (by omega)
  refine ⟨l ++ [e], by simp [h1], fun i hi => ?_⟩
  by_cases hc : i < l.length
  ·rw [List.getElem_append_left hc]; exact h2 i hc
  ·have : i = l.length := by simp at hi; omega
   subst this
   rw [List.getElem_append_right (Nat.le_refl _)]
   simpa [h1] using he
section
variable {H : Type} {enc : TypeId × Value → H} {P : Program} {w : World} {base : Nat} {spare : Nat → Bool} {held : Bool}
def Sz (P : Program) (t : TypeId) (d : DataW H) : Prop := ∀ n ∈ d.weights P t, n ≤ reachBytes
theorem sz_arg {ts : List TypeId} {ds : List (DataW H)} (h : (DataW.weightsEach P ts ds).all (· ≤ reachBytes) = true) {j : Nat} {t : TypeId} {d : DataW H} (ht : ts[j]? = some t) (hd : ds[j]? = some d) : Sz P t d := fun n hn => by
 have := List.all_eq_true.1 h _ (DataW.weights_mem_each ht hd n hn)
 simpa using this
theorem weightsAll_mem {e : TypeId} : ∀ {l : List (DataW H)} {d : DataW H}, d ∈ l → ∀ n ∈ d.weights P e, n ∈ DataW.weightsAll P e l
 | a :: l, d, hd, n, hn => by
  simp only [DataW.weightsAll, List.mem_append]
  rcases List.mem_cons.1 hd with rfl | hd
  ·exact Or.inl hn
  ·exact Or.inr (weightsAll_mem hd n hn)
theorem trod_fields {t : TypeId} {fs : Array Field} {fuel : Nat} {cs : List Value} {x : DataW H × List MemPlace} (ht : P.underlying t = some (.struct fs)) (hs : Sz P t x.1) (h : DataW.trod enc P w base spare held fuel t cs = some x) :
    ∃ n, cs.length = P.cellsOf t ∧ ∀ (j : Nat) (f : Field), fs[j]? = some f → ∃ y, DataW.trod enc P w base spare held n f.type ((cs.drop f.offset).take (P.cellsOf f.type)) = some y ∧ Sz P f.type y.1 := by
 obtain ⟨ys, n', _, hy, hlen, hyl, hfd⟩ := DataW.trod_struct ht h
 refine ⟨n', hlen, fun j f hj => ?_⟩
 have hjl : j < fs.size := (Array.getElem?_eq_some_iff.1 hj).1
 have hys : ys[j]? = some (ys[j]'(by omega)) := List.getElem?_eq_getElem (by omega)
 refine ⟨_, (hfd j f hj).trans hys, fun n hn => hs n ?_⟩
 rw [hy]
 simp only [DataW.weights, ht]
 exact DataW.weights_mem_each (j := j) (t := f.type) (by simp [hj]) (by simp [hys]) n hn
theorem trod_elems {t e : TypeId} {fuel : Nat} {v : Value} {x : DataW H × List MemPlace} (ht : P.underlying t = some (.slice e)) {k : Nat} (hC : P.cellsOf e = k) (hpos : 0 < k) (hs : Sz P t x.1) (hby : decide (0 < P.bytesOf e) = true) (hf : DataW.trod enc P w base spare held fuel t [v] = some x) :
    ∃ (A : Option Addr) (n c : Nat), v = .slice A n c ∧ n ≤ reachBytes ∧ n ≤ c ∧ ∀ i, i < n → ∃ b off, A = some ⟨b, off, none⟩ ∧ b < w.heap.size ∧
     ∃ (cs : List Value) (y : DataW H × List MemPlace) (m : Nat), cs.length = k ∧ (∀ j, j < k → w.cell? ⟨b, off + (i * k + j), none⟩ = cs[j]?) ∧ DataW.trod enc P w base spare held m e cs = some y ∧ Sz P e y.1 := by
 rcases open_slice ht hf with ⟨h0, _⟩ | ⟨a, len, cap, m, k', D, Pl, hcs, _, hl, hm, hmm, hx, hi⟩
 ·simp at h0
  subst h0
  exact ⟨_, _, _, rfl, by simp, Nat.le_refl _, fun i hi => absurd hi (by omega)⟩
 ·simp at hcs
  subst hcs
  have hw : len * P.bytesOf e ≤ reachBytes := by
   have := hs ((len + (m - len)) * P.bytesOf e) (by rw [hx]; simp [DataW.weights, ht])
   exact Nat.le_trans (Nat.mul_le_mul_right _ (by omega)) this
  refine ⟨_, _, _, rfl, Nat.le_trans (Nat.le_mul_of_pos_right len (of_decide_eq_true hby)) hw, hl, ?_⟩
  have hnm : len ≤ m := by rw [hmm]; split <;> omega
  rw [hC] at hi
  have key : ∀ i, i < len → ∃ (cs : List Value) (y : DataW H × List MemPlace) (m : Nat), cs.length = k ∧ (∀ j, j < k → w.cell? (a.add (i * k + j)) = cs[j]?) ∧ DataW.trod enc P w base spare held m e cs = some y ∧ Sz P e y.1 := by
   intro i hin
   obtain ⟨cs', hc, ht'⟩ := hi i (by omega)
   obtain ⟨_, hcl, hat⟩ := World.cells?_some hc
   exact ⟨cs', _, _, hcl, fun j hj => by rw [← Go.Deep.add_add]; exact hat j hj, ht', fun n hn => hs n (by
    rw [hx]
    simp only [DataW.weights, ht, List.mem_cons, List.mem_append]
    exact Or.inr (Or.inl (weightsAll_mem (List.mem_map.2 ⟨i, List.mem_range.2 hin, rfl⟩) n hn)))⟩
  intro i hin
  obtain ⟨cs0, y0, m0, hl0, hc0, _, _⟩ := key 0 (by omega)
  have hu := hc0 0 hpos
  simp only [Nat.zero_mul, Nat.add_zero] at hu
  have hadd0 : a.add 0 = a := by simp [Addr.add]
  rw [hadd0, List.getElem?_eq_getElem (by omega)] at hu
  obtain ⟨b, off, rfl, hb⟩ := addr_of_cell hu
  obtain ⟨cs, y, m1, h1, h2, h3⟩ := key i hin
  exact ⟨b, off, rfl, hb, cs, y, m1, h1, fun j hj => by rw [← h2 j hj, addr_add_none], h3⟩
end
section
variable {H : Type} {enc : TypeId × Value → H} {P : Program} {w : World} {base : Nat} {spare : Nat → Bool} {held : Bool} {S : Nat → Prop}
def RowAt (S : Nat → Prop) (w : World) (row : List D) (cs : List Value) : Prop := row.length = cs.length ∧ ∀ (j : Nat) (d : D), row[j]? = some d → ∃ u, cs[j]? = some u ∧ Rd S w d u
theorem RowAt.one {d : D} {u : Value} (h : Rd S w d u) : RowAt S w [d] [u] := ⟨rfl, fun j d' hj => by
 match j, hj with
 | 0, hj => simp at hj; subst hj; exact ⟨u, rfl, h⟩
 | j + 1, hj => simp at hj⟩
theorem RowAt.cons {d : D} {u : Value} {row : List D} {cs : List Value} (h : Rd S w d u) (t : RowAt S w row cs) : RowAt S w (d :: row) (u :: cs) := ⟨by simp [t.1], fun j d' hj => by
 match j, hj with
 | 0, hj => simp at hj; subst hj; exact ⟨u, rfl, h⟩
 | j + 1, hj => exact t.2 j d' (by simpa using hj)⟩
theorem open_rd {α : Type} (hS : ∀ b, S b) (f : α → List D) (Q : α → Prop) {t e : TypeId} {fuel : Nat} {v : Value} {x : DataW H × List MemPlace} (ht : P.underlying t = some (.slice e)) {k : Nat} (hC : P.cellsOf e = k) (hpos : 0 < k) (hs : Sz P t x.1) (hby : decide (0 < P.bytesOf e) = true) (hf : DataW.trod enc P w base spare held fuel t [v] = some x)
    (hel : ∀ (cs : List Value) (y : DataW H × List MemPlace) (m : Nat), cs.length = k → DataW.trod enc P w base spare held m e cs = some y → Sz P e y.1 → ∃ x : α, RowAt S w (f x) cs ∧ Q x) :
    ∃ l : List α, Rd S w (.sl k (l.map f)) v ∧ l.length ≤ reachBytes ∧ ∀ x ∈ l, Q x := by
 obtain ⟨A, n, c, rfl, hn, hnc, hi⟩ := trod_elems ht hC hpos hs hby hf
 have hex : ∀ i, i < n → ∃ x : α, (∃ b off cs, A = some ⟨b, off, none⟩ ∧ b < w.heap.size ∧ List.length cs = k ∧ (∀ j, j < k → w.cell? ⟨b, off + (i * k + j), none⟩ = cs[j]?) ∧ RowAt S w (f x) cs) ∧ Q x := fun i hin => by
  obtain ⟨b, off, hA, hb, cs, y, m, hl, hc, ht', hsy⟩ := hi i hin
  obtain ⟨x, h1, h2⟩ := hel cs y m hl ht' hsy
  exact ⟨x, ⟨b, off, cs, hA, hb, hl, hc, h1⟩, h2⟩
 obtain ⟨l, hl, hE⟩ := pick_list hex
 refine ⟨l, ?_, by omega, fun x hx => by obtain ⟨i, hi', rfl⟩ := List.getElem_of_mem hx; exact (hE i hi').2⟩
 have hlen : (l.map f).length = n := by simp [hl]
 have hat : ∀ (i : Nat) (row : List D), (l.map f)[i]? = some row → ∃ (h : i < l.length), row = f l[i] := fun i row h => by
  rw [List.getElem?_map] at h
  obtain ⟨y, h1, h2⟩ := Option.map_eq_some_iff.1 h
  obtain ⟨h3, h4⟩ := List.getElem?_eq_some_iff.1 h1
  exact ⟨h3, by rw [← h2, h4]⟩
 by_cases h0 : n = 0
 ·subst h0
  obtain rfl : l = [] := List.length_eq_zero_iff.1 hl
  exact Rd.sl (rows := []) (A := A) (c := c) (b := 0) (o := 0) (cv := fun _ _ => undef) (by simp) (by simp) (fun h => absurd rfl h) (by simp) (by simp) (by simp)
 ·obtain ⟨⟨b, off, cs0, hA, hb, _⟩, _⟩ := hE 0 (by omega)
  have key : ∀ (i : Nat) (row : List D) (j : Nat) (d : D), (l.map f)[i]? = some row → row[j]? = some d → ∃ u, w.cell? ⟨b, off + (i * k + j), none⟩ = some u ∧ Rd S w d u := by
   intro i row j d h1 h2
   obtain ⟨hil, rfl⟩ := hat i row h1
   obtain ⟨⟨b', off', cs, hA', _, hcl, hc, hr⟩, _⟩ := hE i hil
   rw [hA] at hA'
   cases hA'
   obtain ⟨u, u1, u2⟩ := hr.2 j d h2
   have hjk : j < k := by
    rcases Nat.lt_or_ge j cs.length with h | h
    ·omega
    ·rw [List.getElem?_eq_none h] at u1; cases u1
   exact ⟨u, by rw [hc j hjk]; exact u1, u2⟩
  have := Rd.sl (S := S) (w := w) (sz := k) (rows := l.map f) (A := A) (c := c) (b := b) (o := off) (cv := fun i j => (w.cell? ⟨b, off + (i * k + j), none⟩).getD undef) (by omega) (by rw [hlen]; unfold reachBytes at hn; omega) (fun _ => ⟨hA, hb, hS b⟩)
   (fun i row h1 => by
    obtain ⟨hil, rfl⟩ := hat i row h1
    obtain ⟨⟨_, _, cs, _, _, hcl, _, hr⟩, _⟩ := hE i hil
    rw [hr.1, hcl])
   (fun i row j d h1 h2 => by obtain ⟨u, u1, u2⟩ := key i row j d h1 h2; simp [u1])
   (fun i row j d h1 h2 => by obtain ⟨u, u1, u2⟩ := key i row j d h1 h2; simpa [u1] using u2)
  rw [hlen] at this
  exact this
theorem trod_bool' {n : Nat} {t : TypeId} {v : Value} {y : DataW H × List MemPlace} (ht : P.underlying t = some .bool) (h : DataW.trod enc P w base spare held n t [v] = some y) : ∃ b, v = .bool b := by
 obtain ⟨b, h1, _⟩ := DataW.trod_bool ht h
 simp at h1
 exact ⟨b, h1⟩
end
section
variable {H : Type} {enc : TypeId × Value → H} {w : World} {base : Nat} {spare : Nat → Bool} {held : Bool} {S : Nat → Prop}
theorem trod_u16 {P : Program} {n : Nat} {t : TypeId} {v : Value} {y : DataW H × List MemPlace} (ht : P.underlying t = some (.int .u16)) (h : DataW.trod enc P w base spare held n t [v] = some y) : ∃ z, v = .int .u16 z ∧ (0 ≤ z ∧ z < 65536) := by
 obtain ⟨z, h1, _, h2⟩ := DataW.trod_int ht h
 simp at h1
 refine ⟨z, h1, ?_⟩
 simp [Lit.wf, IntKind.min, IntKind.max, IntKind.signed, IntKind.bits] at h2
 omega
theorem open_setsD (hS : ∀ b, S b) {fuel : Nat} {v : Value} {x : DataW H × List MemPlace} (hs : Sz Tryz.prog 22 x.1) (hf : DataW.trod enc Tryz.prog w base spare held fuel 22 [v] = some x) : ∃ l : List Int, Rd S w (.sl 1 (dSets l)) v ∧ u8s l := by
 obtain ⟨l, h1, h2, h3⟩ := open_rd (S := S) hS (fun x : Int => [.v (.int .u8 x)]) (fun x => 0 ≤ x ∧ x < 256) Tryz.underlying22 (k := 1) (by kernel_rfl) (by decide) hs (by kernel_rfl) hf (fun cs y m hl ht hsy => by
  match cs, hl with
  | [u], _ =>
   obtain ⟨z, rfl, hz⟩ := trod_u8 Tryz.underlying5 ht
   exact ⟨z, RowAt.one (.v rfl), by omega⟩)
 exact ⟨l, h1, h3⟩
theorem open_linksD (hS : ∀ b, S b) {fuel : Nat} {v : Value} {x : DataW H × List MemPlace} (hs : Sz Tryz.prog 23 x.1) (hf : DataW.trod enc Tryz.prog w base spare held fuel 23 [v] = some x) : ∃ l : List LinkD, Rd S w (.sl 6 (dLinks l)) v ∧ ∀ t ∈ l, linkOK t := by
 have cI : Tryz.prog.cellsOf 5 = 1 := by kernel_rfl
 have cB : Tryz.prog.cellsOf 4 = 1 := by kernel_rfl
 have cM : Tryz.prog.cellsOf 54 = 1 := by kernel_rfl
 obtain ⟨l, h1, h2, h3⟩ := open_rd (S := S) hS linkRow linkOK Tryz.underlying23 (k := 6) (by kernel_rfl) (by decide) hs (by kernel_rfl) hf (fun cs y m hl ht hsy => by
  obtain ⟨n', _, hfd⟩ := trod_fields Tryz.underlying144 hsy ht
  match cs, hl with
  | [u0, u1, u2, u3, u4, u5], _ =>
   obtain ⟨y0, t0, _⟩ := hfd 0 _ rfl
   obtain ⟨y1, t1, _⟩ := hfd 1 _ rfl
   obtain ⟨y2, t2, _⟩ := hfd 2 _ rfl
   obtain ⟨y3, t3, _⟩ := hfd 3 _ rfl
   obtain ⟨y4, t4, s4⟩ := hfd 4 _ rfl
   obtain ⟨y5, t5, s5⟩ := hfd 5 _ rfl
   simp [cI, cB, cM] at t0 t1 t2 t3 t4 t5
   obtain ⟨z0, rfl, a0⟩ := trod_u8 Tryz.underlying5 t0
   obtain ⟨z1, rfl, a1⟩ := trod_u8 Tryz.underlying5 t1
   obtain ⟨z2, rfl, a2⟩ := trod_u8 Tryz.underlying5 t2
   obtain ⟨z3, rfl⟩ := trod_bool' Tryz.underlying4 t3
   obtain ⟨z4, rfl, a4⟩ := trod_u16 Tryz.underlying54 t4
   obtain ⟨z5, rfl, a5⟩ := trod_u16 Tryz.underlying54 t5
   exact ⟨⟨z0, z1, z2, z3, z4, z5⟩, .cons (.v rfl) (.cons (.v rfl) (.cons (.v rfl) (.cons (.v rfl) (.cons (.v rfl) (.one (.v rfl)))))), ⟨by simp only; omega, by simp only; omega⟩, ⟨by simp only; omega, by simp only; omega⟩, ⟨by simp only; omega, by simp only; omega⟩, ⟨by simp only; omega, by simp only; omega⟩, ⟨by simp only; omega, by simp only; omega⟩⟩)
 exact ⟨l, h1, h3⟩
theorem open_case (hS : ∀ b, S b) {r : Reach} {b0 : Nat} {v : Value} {d : DataW H} {p : List MemPlace} (hv : Value.okWide Tryz.prog w r b0 27 v) (hs : Sz Tryz.prog 27 d) (h : DataW.Trod enc Tryz.prog w base spare held 27 v d p) :
    ∃ (x : DraftD) (R ch : List Int), (∀ (ρ : Key → Hd) (ok : Key → Prop), AVRel (CRel S ρ ok w) (.one true (caseC x R ch)) v) ∧ draftOK x ∧ u8s R ∧ u8s ch := by
 have cI : Tryz.prog.cellsOf 22 = 1 := by kernel_rfl
 have cT : Tryz.prog.cellsOf 23 = 1 := by kernel_rfl
 have c4 : Tryz.prog.cellsOf 25 = 4 := by kernel_rfl
 have c6 : Tryz.prog.cellsOf 27 = 6 := by kernel_rfl
 unfold Value.okWide at hv
 rw [Tryz.underlying27] at hv
 obtain ⟨cs, rfl, hsz, _⟩ := hv
 obtain ⟨fuel, hf⟩ := h
 obtain ⟨n, hl, hfd⟩ := trod_fields Tryz.underlying27 (by exact hs) hf
 rw [c6] at hsz
 obtain ⟨cs⟩ := cs
 match cs, hsz with
 | [u0, u1, u2, u3, u4, u5], _ =>
  obtain ⟨yd, td, sd⟩ := hfd 0 _ rfl
  obtain ⟨y4, t4, s4⟩ := hfd 1 _ rfl
  obtain ⟨y5, t5, s5⟩ := hfd 2 _ rfl
  simp [cI, c4, Value.cells] at td t4 t5
  obtain ⟨n', hl', hfe⟩ := trod_fields Tryz.underlying25 sd td
  obtain ⟨y0, t0, s0⟩ := hfe 0 _ rfl
  obtain ⟨y1, t1, s1⟩ := hfe 1 _ rfl
  obtain ⟨y2, t2, s2⟩ := hfe 2 _ rfl
  obtain ⟨y3, t3, s3⟩ := hfe 3 _ rfl
  clear hfd hf hl hfe
  simp [cI, cT, Value.cells] at t0 t1 t2 t3
  obtain ⟨l0, r0, q0⟩ := open_setsD hS s0 t0
  obtain ⟨l1, r1, q1⟩ := open_setsD hS s1 t1
  obtain ⟨l2, r2, q2⟩ := open_setsD hS s2 t2
  obtain ⟨l3, r3, q3⟩ := open_linksD hS s3 t3
  obtain ⟨l4, r4, q4⟩ := open_setsD hS s4 t4
  obtain ⟨l5, r5, q5⟩ := open_setsD hS s5 t5
  exact ⟨⟨l0, l1, l2, l3⟩, l4, l5, fun ρ ok => ⟨[u0, u1, u2, u3, u4, u5], .cons r0 (.cons r1 (.cons r2 (.cons r3 (.cons r4 (.cons r5 .nil))))), by simp⟩, ⟨q0, q1, q2, q3⟩, q4, q5⟩
end
def ρ0 : Key → Hd := fun _ => ⟨none, none, 0, 0, 0⟩
def S0 : Nat → Prop := Im (fun _ => False) ρ0 (lk ([] : List (Key × Box)))
theorem S0_all (b : Nat) : S0 b := ⟨fun h => h, fun q box hq => by cases hq⟩
def valArgs (xs : List (Bool × List C)) : List Arg := xs.map fun x => .val x.1 x.2
theorem argTm_val : ∀ (xs : List (Bool × List C)) (i t : Nat) (av : AV), lk (argTm i (valArgs xs)) t = some av → i ≤ t ∧ ∃ x, xs[t - i]? = some x ∧ av = .one x.1 x.2
 | [], i, t, av, h => by cases h
 | x :: xs, i, t, av, h => by
  have h' : (if t = i then some (AV.one x.1 x.2) else lk (argTm (i + 1) (valArgs xs)) t) = some av := h
  split at h'
  ·rename_i e
   subst e
   cases h'
   exact ⟨Nat.le_refl _, x, by simp, rfl⟩
  ·obtain ⟨h1, y, h2, h3⟩ := argTm_val xs (i + 1) t av h'
   refine ⟨by omega, y, ?_, h3⟩
   rw [show t - i = (t - (i + 1)) + 1 by omega, List.getElem?_cons_succ]
   exact h2
theorem argBx_val : ∀ (xs : List (Bool × List C)) (i : Nat), argBx i (valArgs xs) = []
 | [], _ => rfl
 | x :: xs, i => argBx_val xs (i + 1)
theorem calls_of_fn {P : Program} {f : FuncId} {xs : List (Bool × List C)} {vals : List Value} {w : World} (h : FnSound P f (valArgs xs) [] { vals := [(false, [.d (.v (.bool true))])] }) (hl : vals.length = xs.length)
    (hv : ∀ (i : Nat) (x : Bool × List C), xs[i]? = some x → AVRel (CRel S0 ρ0 (fun q => q.2 < 1) w) (.one x.1 x.2) (vals.getD i undef)) : Calls P f vals.toArray w fun e w' => e = .returned (.bool true) ∧ Below w.heap.size w w' := by
 have := h (fun _ => False) (fun _ => False) ρ0 ρ0 w vals (by simp [valArgs, hl])
  ⟨by simp, rfl, (fun t av ht => by
   obtain ⟨_, x, h2, rfl⟩ := argTm_val xs 0 t av ht
   have h3 : xs[t]? = some x := by simpa using h2
   refine ⟨by rw [hl]; exact (List.getElem?_eq_some_iff.1 h3).1, ?_⟩
   have e1 : (⟨vals.toArray, []⟩ : Act).tmps.getD t undef = vals.getD t undef := by simp [Array.getD_eq_getD_getElem?]
   rw [e1, argBx_val]
   exact hv t x h3), (fun q box hq => by rw [argBx_val] at hq; cases hq), (fun q1 b1 q2 b2 b e1 => by rw [argBx_val] at e1; cases e1), (fun q box b hq => by rw [argBx_val] at hq; cases hq), Keep.refl _ _, (fun b hb => False.elim hb), (fun q hq => ⟨by omega, rfl⟩)⟩
 refine this.mono ?_
 rintro e w' ⟨v, ρ', rfl, hR⟩
 have h1 := (hR.tm 0 _ rfl).2
 have h2 : v = .bool true := conV_sound (av := .one false [.d (.v (.bool true))]) (x := .bool true) rfl h1
 exact ⟨by rw [h2], hR.fr.below (Nat.le_refl _) (fun b _ h => h)⟩
end Go.Proofs.YtbdjcgjdmhgnmaaGreat

namespace Go.Proofs.YtbdjcgjdmhgnmaaGreat
open Go Go.RowKit
set_option maxRecDepth 100000
set_option maxHeartbeats 8000000
set_option linter.unusedSimpArgs false
set_option linter.unusedVariables false
theorem sv_eqInt {P : Program} {t : TypeId} {k k' : IntKind} {a b : Int} (h : P.underlying t = some (.int k')) (d : Nat) : semVal P (Op.equalIn (d + 1) t (.int k a) (.int k b)) = some (a == b) := by
 simp only [Op.equalIn]
 rw [semVal_bind, semVal_underlying h]
 show semVal P (if k = k then pure (a == b) else _) = _
 rw [if_pos rfl]; rfl
theorem sv_step (a b c : Int) (d : Nat) : semVal Tryz.prog (Op.equalIn (d + 2) 78 (.agg #[.int .i64 a, .int .i64 b, .int .i64 c]) (.agg #[.int .i64 a, .int .i64 b, .int .i64 c])) = some true := by
 have h3 : Tryz.prog.underlying 3 = some (.int .i64) := by kernel_rfl
 rw [Op.equalIn]
 rw [semVal_bind, semVal_underlying Tryz.underlying78]
 simp only [Option.bind_some]
 have hp : semVal Tryz.prog program = some Tryz.prog := rfl
 have hst : Tryz.prog.stoodInHeld 78 = false := by kernel_rfl
 have p0 : ∀ x y z : Value, semVal Tryz.prog (part 3 #[x, y, z] 0) = some x := fun x y z => by rfl
 have p1 : ∀ x y z : Value, semVal Tryz.prog (part 3 #[x, y, z] 1) = some y := fun x y z => by rfl
 have p2 : ∀ x y z : Value, semVal Tryz.prog (part 3 #[x, y, z] 2) = some z := fun x y z => by rfl
 simp only [semVal_bind, hp, Option.bind_some, hst, Bool.false_eq_true, if_false, List.forIn_toArray, List.forIn_cons, List.forIn_nil]
 simp [semVal_bind, p0, p1, p2, sv_eqInt h3, semVal_pure]
theorem sv_neStep (a b c : Int) : semVal Tryz.prog (binOp .neq 78 (.agg #[.int .i64 a, .int .i64 b, .int .i64 c]) (.agg #[.int .i64 a, .int .i64 b, .int .i64 c])) = some (.bool false) := by
 have : semVal Tryz.prog (Op.equal 78 (.agg #[.int .i64 a, .int .i64 b, .int .i64 c]) (.agg #[.int .i64 a, .int .i64 b, .int .i64 c])) = some true := sv_step a b c 9998
 simp only [binOp]
 rw [semVal_bind, this]
 rfl
theorem sv_guardStep (x y : Operand) (u v : Array Value) : semVal Tryz.prog (eqGuard .neq 78 x y (.agg u) (.agg v)) = some () := by
 have hp : semVal Tryz.prog program = some Tryz.prog := rfl
 have hg : Tryz.prog.eqGuardType Tryz.prog.depth 78 = false := by kernel_rfl
 unfold eqGuard
 simp [semVal_bind, hp, hg]
 rfl
section
variable {lend : FuncId → Bool} {N : Nat} {ops : Array Oper} {dr : Bool} {cs : List Code} {R : AX → St → Prop} {i : Nat} {os : List Oper} {tm : List (Nat × AV)} {bo : BO} {nx : Nat} {ns : List Note} {d : Nat} {pos : String} {ty : TypeId} {af : Array Edge}
theorem W.neStep {ty' : TypeId} {x y : Operand} {a b c : Int} (hd : Nat.blt d N = true) (hx : ev (lk tm) x = some (.one true [.d (.v (.int .i64 a)), .d (.v (.int .i64 b)), .d (.v (.int .i64 c))])) (hy : ev (lk tm) y = some (.one true [.d (.v (.int .i64 a)), .d (.v (.int .i64 b)), .d (.v (.int .i64 c))])) (h : W Tryz.prog lend N ops dr cs R (i + 1) os ((d, .one false [.d (.v (.bool false))]) :: tm) bo nx (ns ++ [⟨opKeys (lk tm) (lko bo) ⟨some d, .binOp .neq 78 x y ty', ty, pos, af, none⟩, []⟩])) : W Tryz.prog lend N ops dr cs R i (⟨some d, .binOp .neq 78 x y ty', ty, pos, af, none⟩ :: os) tm bo nx ns :=
 W.plain hd (fun lt hlt => by
  have hx' := (hlt x (by simp [Op.operands])).trans hx
  have hy' := (hlt y (by simp [Op.operands])).trans hy
  have hc : ∀ z, conV (.one true [.d (.v (.int .i64 a)), .d (.v (.int .i64 b)), .d (.v (.int .i64 c))]) = z → z = some (.agg #[.int .i64 a, .int .i64 b, .int .i64 c]) := fun z e => e.symm.trans rfl
  have hcv : conV (.one true [.d (.v (.int .i64 a)), .d (.v (.int .i64 b)), .d (.v (.int .i64 c))]) = some (.agg #[.int .i64 a, .int .i64 b, .int .i64 c]) := hc _ rfl
  unfold effPlain
  simp only [plainOp, Op.operands, List.all_cons, List.all_nil, hx', hy', Option.bind_some, hcv, Option.isSome_some, Bool.and_true, Bool.true_and, if_true]
  unfold execOp
  simp only [semVal_bind, hx', hy', Option.bind_some, hcv, Option.getD_some, sv_guardStep, sv_neStep, semVal_pure, Option.map_some, semVal_map]
  rfl) (fun _ _ _ _ _ _ => rfl) h
end
theorem same37_fn (l : List StepD) (hl : l.length ≤ 1000000) : FnSound Tryz.prog 31 [.val false [.d (.sl 3 (dSteps l))], .val false [.d (.sl 3 (dSteps l))]] [] { vals := [(false, [.d (.v (.bool true))])] } := by
 refine startW (tm := [(0, _), (1, _)]) Tryz.func31 rfl Tryz.ntmps31 rfl rfl rfl rfl ?_
 repeat' (first
 |(with_reducible refine rgn 6 600 ?_ ?_); exact rfl
 |(with_reducible refine rgn 7 700 ?_ ?_); exact rfl
 |(with_reducible refine rgn 5 800 ?_ ?_); exact rfl
 |(with_reducible refine W_at ?_); (first
 |(refine W.neStep rfl rfl rfl ?_))
 |(with_reducible refine blk_at (id := 0) ?_); ((with_reducible refine JL.loopW 0 499 (fun (k : Nat) tm => (5, .one false [.d (.v (.int .i64 ((k : Int))))]) :: tm) (fun (k : Nat) bo => bo) (fun (k : Nat) => k ≤ l.length) (fun (k : Nat) => l.length - k) (0) ?_ (fun k hk => ?_) ?_); (focus (apply SubW [] rfl ?_ ?_ rfl ?_; (repeat' (first | exact kA | refine kB ?_ | refine kC ?_ ?_ | exact kD | fail)))))
 |((with_reducible refine round_next (i := k) (k + 1) ?_ ?_ ?_); (focus (apply SubW [] rfl ?_ ?_ rfl ?_; (repeat' (first | exact kA | refine kB ?_ | refine kC ?_ ?_ | exact kD | fail)))))
 |refine wA ?_
 |(refine wC ?_ ?_ <;> intro hc)
 |refine wB ?_ ?_
 |(with_reducible refine JL.block ?_)
 |(with_reducible refine F_at ?_); refine eW (vs := [(_, _)]) Tryz.results31 ?_; (focus (repeat' (first | exact oA | refine oB ?_ | refine oC ?_ ?_ | fail)))
 |exact oM
 |fail)
 all_goals first | rfl | (exfalso; omega) | trace_state
theorem same_fn (c : CtlD) (hl : c.plan.length ≤ 1000000) (hf : Few c.mix) (hu : u8s c.mix.held) : FnSound Tryz.prog 14 [.val true (ctlC c), .val true (ctlC c)] [] { vals := [(false, [.d (.v (.bool true))])] } := by
 have he := equal_fn c.mix c.mix hf hf hu hu
 rw [decide_eq_true rfl] at he
 refine startW (tm := [(0, _), (1, _)]) Tryz.func14 rfl Tryz.ntmps14 rfl rfl rfl rfl ?_
 repeat' (first
 |(with_reducible refine K_ca 31 ?_); refine zC (same37_fn c.plan hl) ?_
 |(with_reducible refine K_ca 32 ?_); refine zC (he) ?_
 |refine wA ?_
 |(refine wC ?_ ?_ <;> intro hc)
 |refine wB ?_ ?_
 |(with_reducible refine JL.block ?_)
 |(with_reducible refine F_at ?_); refine eW (vs := [(_, _)]) Tryz.results14 ?_; (focus (repeat' (first | exact oA | refine oB ?_ | refine oC ?_ ?_ | fail)))
 |exact oM
 |fail)
 all_goals first | rfl | (exfalso; omega) | trace_state
end Go.Proofs.YtbdjcgjdmhgnmaaGreat

