/- Rules of runs and contracts of functions, for the claims of one seat. -/
import Derived.Test.YtdpeoolildjohaaGreatDoorQA1
import Derived.Test.YtdpeoolildjohaaGreatDoorTA38
namespace Go.Proofs.YtdpeoolildjohaaGreatDoor
open Go.ChangeShapes Go.WideShapes Go.ChangeAt Go.RowKit Go.Joins Go.Deep
set_option linter.unusedSimpArgs false
set_option linter.unusedVariables false
set_option maxRecDepth 100000
theorem pick_list {α : Type} {n : Nat} {p : Nat → α → Prop} (h : ∀ i, i < n → ∃ e, p i e) : ∃ l : List α, l.length = n ∧ ∀ i (hi : i < l.length), p i l[i] := by
 induction n with
 | zero => exact ⟨[], rfl, fun i hi => by simp at hi⟩
 | succ n ih =>
  obtain ⟨l, h1, h2⟩ := ih (fun i hi => h i (by omega))
  obtain ⟨e, he⟩ := h n (by omega)
  refine ⟨l ++ [e], by simp [h1], fun i hi => ?_⟩
  by_cases hc : i < l.length
  ·rw [List.getElem_append_left hc]; exact h2 i hc
  ·have : i = l.length := by simp at hi; omega
   subst this
   rw [List.getElem_append_right (Nat.le_refl _)]
   simpa [h1] using he
section
variable {H : Type} {enc : TypeId × Value → H} {P : Program} {w : World} {base : Nat} {spare : Nat → Bool} {held : Bool}
def Sz (P : Program) (t : TypeId) (d : DataW H) : Prop := ∀ n ∈ d.weights P t, n ≤ reachBytes
theorem sz_arg {ts : List TypeId} {ds : List (DataW H)} (h : (DataW.weightsEach P ts ds).all (· ≤ reachBytes) = true) {j : Nat} {t : TypeId} {d : DataW H} (ht : ts[j]? = some t) (hd : ds[j]? = some d) : Sz P t d := fun n hn => by
 have := List.all_eq_true.1 h _ (DataW.weights_mem_each ht hd n hn)
 simpa using this
theorem weightsAll_mem {e : TypeId} : ∀ {l : List (DataW H)} {d : DataW H}, d ∈ l → ∀ n ∈ d.weights P e, n ∈ DataW.weightsAll P e l
 | a :: l, d, hd, n, hn => by
  simp only [DataW.weightsAll, List.mem_append]
  rcases List.mem_cons.1 hd with rfl | hd
  ·exact Or.inl hn
  ·exact Or.inr (weightsAll_mem hd n hn)
theorem trod_fields {t : TypeId} {fs : Array Field} {fuel : Nat} {cs : List Value} {x : DataW H × List MemPlace} (ht : P.underlying t = some (.struct fs)) (hs : Sz P t x.1) (h : DataW.trod enc P w base spare held fuel t cs = some x) :
    ∃ n, cs.length = P.cellsOf t ∧ ∀ (j : Nat) (f : Field), fs[j]? = some f → ∃ y, DataW.trod enc P w base spare held n f.type ((cs.drop f.offset).take (P.cellsOf f.type)) = some y ∧ Sz P f.type y.1 := by
 obtain ⟨ys, n', _, hy, hlen, hyl, hfd⟩ := DataW.trod_struct ht h
 refine ⟨n', hlen, fun j f hj => ?_⟩
 have hjl : j < fs.size := (Array.getElem?_eq_some_iff.1 hj).1
 have hys : ys[j]? = some (ys[j]'(by omega)) := List.getElem?_eq_getElem (by omega)
 refine ⟨_, (hfd j f hj).trans hys, fun n hn => hs n ?_⟩
 rw [hy]
 simp only [DataW.weights, ht]
 exact DataW.weights_mem_each (j := j) (t := f.type) (by simp [hj]) (by simp [hys]) n hn
theorem trod_elems {t e : TypeId} {fuel : Nat} {v : Value} {x : DataW H × List MemPlace} (ht : P.underlying t = some (.slice e)) {k : Nat} (hC : P.cellsOf e = k) (hpos : 0 < k) (hs : Sz P t x.1) (hby : decide (0 < P.bytesOf e) = true) (hf : DataW.trod enc P w base spare held fuel t [v] = some x) :
    ∃ (A : Option Addr) (n c : Nat), v = .slice A n c ∧ n ≤ reachBytes ∧ n ≤ c ∧ ∀ i, i < n → ∃ b off, A = some ⟨b, off, none⟩ ∧ b < w.heap.size ∧
     ∃ (cs : List Value) (y : DataW H × List MemPlace) (m : Nat), cs.length = k ∧ (∀ j, j < k → w.cell? ⟨b, off + (i * k + j), none⟩ = cs[j]?) ∧ DataW.trod enc P w base spare held m e cs = some y ∧ Sz P e y.1 := by
 rcases open_slice ht hf with ⟨h0, _⟩ | ⟨a, len, cap, m, k', D, Pl, hcs, _, hl, hm, hmm, hx, hi⟩
 ·simp at h0
  subst h0
  exact ⟨_, _, _, rfl, by simp, Nat.le_refl _, fun i hi => absurd hi (by omega)⟩
 ·simp at hcs
  subst hcs
  have hw : len * P.bytesOf e ≤ reachBytes := by
   have := hs ((len + (m - len)) * P.bytesOf e) (by rw [hx]; simp [DataW.weights, ht])
   exact Nat.le_trans (Nat.mul_le_mul_right _ (by omega)) this
  refine ⟨_, _, _, rfl, Nat.le_trans (Nat.le_mul_of_pos_right len (of_decide_eq_true hby)) hw, hl, ?_⟩
  have hnm : len ≤ m := by rw [hmm]; split <;> omega
  rw [hC] at hi
  have key : ∀ i, i < len → ∃ (cs : List Value) (y : DataW H × List MemPlace) (m : Nat), cs.length = k ∧ (∀ j, j < k → w.cell? (a.add (i * k + j)) = cs[j]?) ∧ DataW.trod enc P w base spare held m e cs = some y ∧ Sz P e y.1 := by
   intro i hin
   obtain ⟨cs', hc, ht'⟩ := hi i (by omega)
   obtain ⟨_, hcl, hat⟩ := World.cells?_some hc
   exact ⟨cs', _, _, hcl, fun j hj => by rw [← Go.Deep.add_add]; exact hat j hj, ht', fun n hn => hs n (by
    rw [hx]
    simp only [DataW.weights, ht, List.mem_cons, List.mem_append]
    exact Or.inr (Or.inl (weightsAll_mem (List.mem_map.2 ⟨i, List.mem_range.2 hin, rfl⟩) n hn)))⟩
  intro i hin
  obtain ⟨cs0, y0, m0, hl0, hc0, _, _⟩ := key 0 (by omega)
  have hu := hc0 0 hpos
  simp only [Nat.zero_mul, Nat.add_zero] at hu
  have hadd0 : a.add 0 = a := by simp [Addr.add]
  rw [hadd0, List.getElem?_eq_getElem (by omega)] at hu
  obtain ⟨b, off, rfl, hb⟩ := addr_of_cell hu
  obtain ⟨cs, y, m1, h1, h2, h3⟩ := key i hin
  exact ⟨b, off, rfl, hb, cs, y, m1, h1, fun j hj => by rw [← h2 j hj, addr_add_none], h3⟩
end
section
variable {H : Type} {enc : TypeId × Value → H} {P : Program} {w : World} {base : Nat} {spare : Nat → Bool} {held : Bool} {S : Nat → Prop}
def RowAt (S : Nat → Prop) (w : World) (row : List D) (cs : List Value) : Prop := row.length = cs.length ∧ ∀ (j : Nat) (d : D), row[j]? = some d → ∃ u, cs[j]? = some u ∧ Rd S w d u
theorem RowAt.one {d : D} {u : Value} (h : Rd S w d u) : RowAt S w [d] [u] := ⟨rfl, fun j d' hj => by
 match j, hj with
 | 0, hj => simp at hj; subst hj; exact ⟨u, rfl, h⟩
 | j + 1, hj => simp at hj⟩
theorem RowAt.cons {d : D} {u : Value} {row : List D} {cs : List Value} (h : Rd S w d u) (t : RowAt S w row cs) : RowAt S w (d :: row) (u :: cs) := ⟨by simp [t.1], fun j d' hj => by
 match j, hj with
 | 0, hj => simp at hj; subst hj; exact ⟨u, rfl, h⟩
 | j + 1, hj => exact t.2 j d' (by simpa using hj)⟩
theorem open_rd {α : Type} (hS : ∀ b, S b) (f : α → List D) (Q : α → Prop) {t e : TypeId} {fuel : Nat} {v : Value} {x : DataW H × List MemPlace} (ht : P.underlying t = some (.slice e)) {k : Nat} (hC : P.cellsOf e = k) (hpos : 0 < k) (hs : Sz P t x.1) (hby : decide (0 < P.bytesOf e) = true) (hf : DataW.trod enc P w base spare held fuel t [v] = some x)
    (hel : ∀ (cs : List Value) (y : DataW H × List MemPlace) (m : Nat), cs.length = k → DataW.trod enc P w base spare held m e cs = some y → Sz P e y.1 → ∃ x : α, RowAt S w (f x) cs ∧ Q x) :
    ∃ l : List α, Rd S w (.sl k (l.map f)) v ∧ l.length ≤ reachBytes ∧ ∀ x ∈ l, Q x := by
 obtain ⟨A, n, c, rfl, hn, hnc, hi⟩ := trod_elems ht hC hpos hs hby hf
 have hex : ∀ i, i < n → ∃ x : α, (∃ b off cs, A = some ⟨b, off, none⟩ ∧ b < w.heap.size ∧ List.length cs = k ∧ (∀ j, j < k → w.cell? ⟨b, off + (i * k + j), none⟩ = cs[j]?) ∧ RowAt S w (f x) cs) ∧ Q x := fun i hin => by
  obtain ⟨b, off, hA, hb, cs, y, m, hl, hc, ht', hsy⟩ := hi i hin
  obtain ⟨x, h1, h2⟩ := hel cs y m hl ht' hsy
  exact ⟨x, ⟨b, off, cs, hA, hb, hl, hc, h1⟩, h2⟩
 obtain ⟨l, hl, hE⟩ := pick_list hex
 refine ⟨l, ?_, by omega, fun x hx => by obtain ⟨i, hi', rfl⟩ := List.getElem_of_mem hx; exact (hE i hi').2⟩
 have hlen : (l.map f).length = n := by simp [hl]
 have hat : ∀ (i : Nat) (row : List D), (l.map f)[i]? = some row → ∃ (h : i < l.length), row = f l[i] := fun i row h => by
  rw [List.getElem?_map] at h
  obtain ⟨y, h1, h2⟩ := Option.map_eq_some_iff.1 h
  obtain ⟨h3, h4⟩ := List.getElem?_eq_some_iff.1 h1
  exact ⟨h3, by rw [← h2, h4]⟩
 by_cases h0 : n = 0
 ·subst h0
  obtain rfl : l = [] := List.length_eq_zero_iff.1 hl
  exact Rd.sl (rows := []) (A := A) (c := c) (b := 0) (o := 0) (cv := fun _ _ => undef) (by simp) (by simp) (fun h => absurd rfl h) (by simp) (by simp) (by simp)
 ·obtain ⟨⟨b, off, cs0, hA, hb, _⟩, _⟩ := hE 0 (by omega)
  have key : ∀ (i : Nat) (row : List D) (j : Nat) (d : D), (l.map f)[i]? = some row → row[j]? = some d → ∃ u, w.cell? ⟨b, off + (i * k + j), none⟩ = some u ∧ Rd S w d u := by
   intro i row j d h1 h2
   obtain ⟨hil, rfl⟩ := hat i row h1
   obtain ⟨⟨b', off', cs, hA', _, hcl, hc, hr⟩, _⟩ := hE i hil
   rw [hA] at hA'
   cases hA'
   obtain ⟨u, u1, u2⟩ := hr.2 j d h2
   have hjk : j < k := by
    rcases Nat.lt_or_ge j cs.length with h | h
    ·omega
    ·rw [List.getElem?_eq_none h] at u1; cases u1
   exact ⟨u, by rw [hc j hjk]; exact u1, u2⟩
  have := Rd.sl (S := S) (w := w) (sz := k) (rows := l.map f) (A := A) (c := c) (b := b) (o := off) (cv := fun i j => (w.cell? ⟨b, off + (i * k + j), none⟩).getD undef) (by omega) (by rw [hlen]; unfold reachBytes at hn; omega) (fun _ => ⟨hA, hb, hS b⟩)
   (fun i row h1 => by
    obtain ⟨hil, rfl⟩ := hat i row h1
    obtain ⟨⟨_, _, cs, _, _, hcl, _, hr⟩, _⟩ := hE i hil
    rw [hr.1, hcl])
   (fun i row j d h1 h2 => by obtain ⟨u, u1, u2⟩ := key i row j d h1 h2; simp [u1])
   (fun i row j d h1 h2 => by obtain ⟨u, u1, u2⟩ := key i row j d h1 h2; simpa [u1] using u2)
  rw [hlen] at this
  exact this
theorem trod_bool' {n : Nat} {t : TypeId} {v : Value} {y : DataW H × List MemPlace} (ht : P.underlying t = some .bool) (h : DataW.trod enc P w base spare held n t [v] = some y) : ∃ b, v = .bool b := by
 obtain ⟨b, h1, _⟩ := DataW.trod_bool ht h
 simp at h1
 exact ⟨b, h1⟩
end
section
variable {H : Type} {enc : TypeId × Value → H} {w : World} {base : Nat} {spare : Nat → Bool} {held : Bool} {S : Nat → Prop}
theorem trod_u16 {P : Program} {n : Nat} {t : TypeId} {v : Value} {y : DataW H × List MemPlace} (ht : P.underlying t = some (.int .u16)) (h : DataW.trod enc P w base spare held n t [v] = some y) : ∃ z, v = .int .u16 z ∧ (0 ≤ z ∧ z < 65536) := by
 obtain ⟨z, h1, _, h2⟩ := DataW.trod_int ht h
 simp at h1
 refine ⟨z, h1, ?_⟩
 simp [Lit.wf, IntKind.min, IntKind.max, IntKind.signed, IntKind.bits] at h2
 omega
theorem open_setsD (hS : ∀ b, S b) {fuel : Nat} {v : Value} {x : DataW H × List MemPlace} (hs : Sz Tryz.prog 22 x.1) (hf : DataW.trod enc Tryz.prog w base spare held fuel 22 [v] = some x) : ∃ l : List Int, Rd S w (.sl 1 (dSets l)) v ∧ u8s l := by
 obtain ⟨l, h1, h2, h3⟩ := open_rd (S := S) hS (fun x : Int => [.v (.int .u8 x)]) (fun x => 0 ≤ x ∧ x < 256) Tryz.underlying22 (k := 1) (by kernel_rfl) (by decide) hs (by kernel_rfl) hf (fun cs y m hl ht hsy => by
  match cs, hl with
  | [u], _ =>
   obtain ⟨z, rfl, hz⟩ := trod_u8 Tryz.underlying5 ht
   exact ⟨z, RowAt.one (.v rfl), by omega⟩)
 exact ⟨l, h1, h3⟩
theorem open_linksD (hS : ∀ b, S b) {fuel : Nat} {v : Value} {x : DataW H × List MemPlace} (hs : Sz Tryz.prog 23 x.1) (hf : DataW.trod enc Tryz.prog w base spare held fuel 23 [v] = some x) : ∃ l : List LinkD, Rd S w (.sl 6 (dLinks l)) v ∧ ∀ t ∈ l, linkOK t := by
 have cI : Tryz.prog.cellsOf 5 = 1 := by kernel_rfl
 have cB : Tryz.prog.cellsOf 4 = 1 := by kernel_rfl
 have cM : Tryz.prog.cellsOf 88 = 1 := by kernel_rfl
 obtain ⟨l, h1, h2, h3⟩ := open_rd (S := S) hS linkRow linkOK Tryz.underlying23 (k := 6) (by kernel_rfl) (by decide) hs (by kernel_rfl) hf (fun cs y m hl ht hsy => by
  obtain ⟨n', _, hfd⟩ := trod_fields Tryz.underlying90 hsy ht
  match cs, hl with
  | [u0, u1, u2, u3, u4, u5], _ =>
   obtain ⟨y0, t0, _⟩ := hfd 0 _ rfl
   obtain ⟨y1, t1, _⟩ := hfd 1 _ rfl
   obtain ⟨y2, t2, _⟩ := hfd 2 _ rfl
   obtain ⟨y3, t3, _⟩ := hfd 3 _ rfl
   obtain ⟨y4, t4, s4⟩ := hfd 4 _ rfl
   obtain ⟨y5, t5, s5⟩ := hfd 5 _ rfl
   simp [cI, cB, cM] at t0 t1 t2 t3 t4 t5
   obtain ⟨z0, rfl, a0⟩ := trod_u8 Tryz.underlying5 t0
   obtain ⟨z1, rfl, a1⟩ := trod_u8 Tryz.underlying5 t1
   obtain ⟨z2, rfl, a2⟩ := trod_u8 Tryz.underlying5 t2
   obtain ⟨z3, rfl⟩ := trod_bool' Tryz.underlying4 t3
   obtain ⟨z4, rfl, a4⟩ := trod_u16 Tryz.underlying88 t4
   obtain ⟨z5, rfl, a5⟩ := trod_u16 Tryz.underlying88 t5
   exact ⟨⟨z0, z1, z2, z3, z4, z5⟩, .cons (.v rfl) (.cons (.v rfl) (.cons (.v rfl) (.cons (.v rfl) (.cons (.v rfl) (.one (.v rfl)))))), ⟨by simp only; omega, by simp only; omega⟩, ⟨by simp only; omega, by simp only; omega⟩, ⟨by simp only; omega, by simp only; omega⟩, ⟨by simp only; omega, by simp only; omega⟩, ⟨by simp only; omega, by simp only; omega⟩⟩)
 exact ⟨l, h1, h3⟩
theorem open_case (hS : ∀ b, S b) {r : Reach} {b0 : Nat} {v : Value} {d : DataW H} {p : List MemPlace} (hv : Value.okWide Tryz.prog w r b0 51 v) (hs : Sz Tryz.prog 51 d) (h : DataW.Trod enc Tryz.prog w base spare held 51 v d p) :
    ∃ (x : DraftD) (R ch : List Int), (∀ (ρ : Key → Hd) (ok : Key → Prop), AVRel (CRel S ρ ok w) (.one true (caseC x R ch)) v) ∧ draftOK x ∧ u8s R ∧ u8s ch := by
 have cI : Tryz.prog.cellsOf 22 = 1 := by kernel_rfl
 have cT : Tryz.prog.cellsOf 23 = 1 := by kernel_rfl
 have c4 : Tryz.prog.cellsOf 25 = 4 := by kernel_rfl
 have c6 : Tryz.prog.cellsOf 51 = 6 := by kernel_rfl
 unfold Value.okWide at hv
 rw [Tryz.underlying51] at hv
 obtain ⟨cs, rfl, hsz, _⟩ := hv
 obtain ⟨fuel, hf⟩ := h
 obtain ⟨n, hl, hfd⟩ := trod_fields Tryz.underlying51 (by exact hs) hf
 rw [c6] at hsz
 obtain ⟨cs⟩ := cs
 match cs, hsz with
 | [u0, u1, u2, u3, u4, u5], _ =>
  obtain ⟨yd, td, sd⟩ := hfd 0 _ rfl
  obtain ⟨y4, t4, s4⟩ := hfd 1 _ rfl
  obtain ⟨y5, t5, s5⟩ := hfd 2 _ rfl
  simp [cI, c4, Value.cells] at td t4 t5
  obtain ⟨n', hl', hfe⟩ := trod_fields Tryz.underlying25 sd td
  obtain ⟨y0, t0, s0⟩ := hfe 0 _ rfl
  obtain ⟨y1, t1, s1⟩ := hfe 1 _ rfl
  obtain ⟨y2, t2, s2⟩ := hfe 2 _ rfl
  obtain ⟨y3, t3, s3⟩ := hfe 3 _ rfl
  clear hfd hf hl hfe
  simp [cI, cT, Value.cells] at t0 t1 t2 t3
  obtain ⟨l0, r0, q0⟩ := open_setsD hS s0 t0
  obtain ⟨l1, r1, q1⟩ := open_setsD hS s1 t1
  obtain ⟨l2, r2, q2⟩ := open_setsD hS s2 t2
  obtain ⟨l3, r3, q3⟩ := open_linksD hS s3 t3
  obtain ⟨l4, r4, q4⟩ := open_setsD hS s4 t4
  obtain ⟨l5, r5, q5⟩ := open_setsD hS s5 t5
  exact ⟨⟨l0, l1, l2, l3⟩, l4, l5, fun ρ ok => ⟨[u0, u1, u2, u3, u4, u5], .cons r0 (.cons r1 (.cons r2 (.cons r3 (.cons r4 (.cons r5 .nil))))), by simp⟩, ⟨q0, q1, q2, q3⟩, q4, q5⟩
end
def ρ0 : Key → Hd := fun _ => ⟨none, none, 0, 0, 0⟩
def S0 : Nat → Prop := Im (fun _ => False) ρ0 (lk ([] : List (Key × Box)))
theorem S0_all (b : Nat) : S0 b := ⟨fun h => h, fun q box hq => by cases hq⟩
def valArgs (xs : List (Bool × List C)) : List Arg := xs.map fun x => .val x.1 x.2
theorem argTm_val : ∀ (xs : List (Bool × List C)) (i t : Nat) (av : AV), lk (argTm i (valArgs xs)) t = some av → i ≤ t ∧ ∃ x, xs[t - i]? = some x ∧ av = .one x.1 x.2
 | [], i, t, av, h => by cases h
 | x :: xs, i, t, av, h => by
  have h' : (if t = i then some (AV.one x.1 x.2) else lk (argTm (i + 1) (valArgs xs)) t) = some av := h
  split at h'
  ·rename_i e
   subst e
   cases h'
   exact ⟨Nat.le_refl _, x, by simp, rfl⟩
  ·obtain ⟨h1, y, h2, h3⟩ := argTm_val xs (i + 1) t av h'
   refine ⟨by omega, y, ?_, h3⟩
   rw [show t - i = (t - (i + 1)) + 1 by omega, List.getElem?_cons_succ]
   exact h2
theorem argBx_val : ∀ (xs : List (Bool × List C)) (i : Nat), argBx i (valArgs xs) = []
 | [], _ => rfl
 | x :: xs, i => argBx_val xs (i + 1)
theorem calls_of_fn {P : Program} {f : FuncId} {xs : List (Bool × List C)} {vals : List Value} {w : World} (h : FnSound P f (valArgs xs) [] { vals := [(false, [.d (.v (.bool true))])] }) (hl : vals.length = xs.length)
    (hv : ∀ (i : Nat) (x : Bool × List C), xs[i]? = some x → AVRel (CRel S0 ρ0 (fun q => q.2 < 1) w) (.one x.1 x.2) (vals.getD i undef)) : Calls P f vals.toArray w fun e w' => e = .returned (.bool true) ∧ Below w.heap.size w w' := by
 have := h (fun _ => False) (fun _ => False) ρ0 ρ0 w vals (by simp [valArgs, hl])
  ⟨by simp, rfl, (fun t av ht => by
   obtain ⟨_, x, h2, rfl⟩ := argTm_val xs 0 t av ht
   have h3 : xs[t]? = some x := by simpa using h2
   refine ⟨by rw [hl]; exact (List.getElem?_eq_some_iff.1 h3).1, ?_⟩
   have e1 : (⟨vals.toArray, []⟩ : Act).tmps.getD t undef = vals.getD t undef := by simp [Array.getD_eq_getD_getElem?]
   rw [e1, argBx_val]
   exact hv t x h3), (fun q box hq => by rw [argBx_val] at hq; cases hq), (fun q1 b1 q2 b2 b e1 => by rw [argBx_val] at e1; cases e1), (fun q box b hq => by rw [argBx_val] at hq; cases hq), Keep.refl _ _, (fun b hb => False.elim hb), (fun q hq => ⟨by omega, rfl⟩)⟩
 refine this.mono ?_
 rintro e w' ⟨v, ρ', rfl, hR⟩
 have h1 := (hR.tm 0 _ rfl).2
 have h2 : v = .bool true := conV_sound (av := .one false [.d (.v (.bool true))]) (x := .bool true) rfl h1
 exact ⟨by rw [h2], hR.fr.below (Nat.le_refl _) (fun b _ h => h)⟩
end Go.Proofs.YtdpeoolildjohaaGreatDoor

namespace Go.Proofs.YtdpeoolildjohaaGreatDoor
open Go.ChangeShapes Go.WideShapes Go.ChangeAt Go.RowKit Go.Joins Go.Deep
set_option linter.unusedSimpArgs false
set_option linter.unusedVariables false
set_option maxRecDepth 100000
section
variable {H : Type} {enc : TypeId × Value → H} {w : World} {base : Nat} {spare : Nat → Bool} {held : Bool} {S : Nat → Prop}
theorem open_sigV {fuel : Nat} {cs : List Value} {y : DataW H × List MemPlace} (hl : cs.length = 7) (hs : Sz Tryz.prog 60 y.1) (h : DataW.trod enc Tryz.prog w base spare held fuel 60 cs = some y) : ∃ s : SigD, cs = [.int .i64 s.kind, .int .i64 s.token, .int .i64 s.round, .int .i64 s.replica, .int .i64 s.ver, .bool s.pass, .int .i64 s.table] := by
 have cI : Tryz.prog.cellsOf 3 = 1 := by kernel_rfl
 have cJ : Tryz.prog.cellsOf 2 = 1 := by kernel_rfl
 have cB : Tryz.prog.cellsOf 4 = 1 := by kernel_rfl
 obtain ⟨n', _, hfd⟩ := trod_fields Tryz.underlying60 hs h
 match cs, hl with
 | [u0, u1, u2, u3, u4, u5, u6], _ =>
  obtain ⟨y0, t0, _⟩ := hfd 0 _ rfl
  obtain ⟨y1, t1, _⟩ := hfd 1 _ rfl
  obtain ⟨y2, t2, _⟩ := hfd 2 _ rfl
  obtain ⟨y3, t3, _⟩ := hfd 3 _ rfl
  obtain ⟨y4, t4, _⟩ := hfd 4 _ rfl
  obtain ⟨y5, t5, _⟩ := hfd 5 _ rfl
  obtain ⟨y6, t6, _⟩ := hfd 6 _ rfl
  simp [cI, cJ, cB] at t0 t1 t2 t3 t4 t5 t6
  obtain ⟨z0, rfl, _⟩ := trod_i64 Tryz.underlying3 t0
  obtain ⟨z1, rfl, _⟩ := trod_i64 Tryz.underlying2 t1
  obtain ⟨z2, rfl, _⟩ := trod_i64 Tryz.underlying3 t2
  obtain ⟨z3, rfl, _⟩ := trod_i64 Tryz.underlying3 t3
  obtain ⟨z4, rfl, _⟩ := trod_i64 Tryz.underlying3 t4
  obtain ⟨z5, rfl⟩ := trod_bool' Tryz.underlying4 t5
  obtain ⟨z6, rfl, _⟩ := trod_i64 Tryz.underlying3 t6
  exact ⟨⟨z0, z1, z2, z3, z4, z5, z6⟩, rfl⟩
theorem open_sigA {r : Reach} {b0 : Nat} {v : Value} {d : DataW H} {p : List MemPlace} (hv : Value.okWide Tryz.prog w r b0 60 v) (hs : Sz Tryz.prog 60 d) (h : DataW.Trod enc Tryz.prog w base spare held 60 v d p) :
    ∃ s : SigD, ∀ (ρ : Key → Hd) (ok : Key → Prop), AVRel (CRel S ρ ok w) (.one true (sigC s)) v := by
 have c7 : Tryz.prog.cellsOf 60 = 7 := by kernel_rfl
 unfold Value.okWide at hv
 rw [Tryz.underlying60] at hv
 obtain ⟨cs, rfl, hsz, _⟩ := hv
 obtain ⟨fuel, hf⟩ := h
 rw [c7] at hsz
 obtain ⟨cs⟩ := cs
 obtain ⟨s, rfl⟩ := open_sigV (cs := cs) (by simpa using hsz) (by exact hs) hf
 exact ⟨s, fun ρ ok => ⟨_, .cons (.v rfl) (.cons (.v rfl) (.cons (.v rfl) (.cons (.v rfl) (.cons (.v rfl) (.cons (.v rfl) (.cons (.v rfl) .nil)))))), by simp⟩⟩
theorem open_sigsA (hS : ∀ b, S b) {r : Reach} {b0 : Nat} {v : Value} {d : DataW H} {p : List MemPlace} (hv : Value.okWide Tryz.prog w r b0 52 v) (hs : Sz Tryz.prog 52 d) (h : DataW.Trod enc Tryz.prog w base spare held 52 v d p) :
    ∃ l : List SigD, ∀ (ρ : Key → Hd) (ok : Key → Prop), AVRel (CRel S ρ ok w) (.one false [.d (.sl 7 (dSigs l))]) v := by
 obtain ⟨A, n, c, rfl⟩ := okWide_slice Tryz.underlying52 hv
 obtain ⟨fuel, hf⟩ := h
 obtain ⟨l, h1, _, _⟩ := open_rd (S := S) hS sigRow (fun _ => True) Tryz.underlying52 (k := 7) (by kernel_rfl) (by decide) (by exact hs) (by kernel_rfl) (show DataW.trod enc Tryz.prog w base spare held fuel 52 [.slice A n c] = some _ from hf) (fun cs y m hl ht hsy => by
  obtain ⟨s, rfl⟩ := open_sigV hl hsy ht
  exact ⟨s, .cons (.v rfl) (.cons (.v rfl) (.cons (.v rfl) (.cons (.v rfl) (.cons (.v rfl) (.cons (.v rfl) (.one (.v rfl))))))), trivial⟩)
 exact ⟨l, fun ρ ok => ⟨[_], .cons h1 .nil, by simp⟩⟩
theorem open_intsA (hS : ∀ b, S b) {r : Reach} {b0 : Nat} {v : Value} {d : DataW H} {p : List MemPlace} (hv : Value.okWide Tryz.prog w r b0 26 v) (hs : Sz Tryz.prog 26 d) (h : DataW.Trod enc Tryz.prog w base spare held 26 v d p) :
    ∃ l : List Int, ∀ (ρ : Key → Hd) (ok : Key → Prop), AVRel (CRel S ρ ok w) (.one false [.d (.sl 1 (dInts l))]) v := by
 obtain ⟨A, n, c, rfl⟩ := okWide_slice Tryz.underlying26 hv
 obtain ⟨fuel, hf⟩ := h
 obtain ⟨l, h1, _, _⟩ := open_rd (S := S) hS (fun x : Int => [.v (.int .i64 x)]) (fun _ => True) Tryz.underlying26 (k := 1) (by kernel_rfl) (by decide) (by exact hs) (by kernel_rfl) (show DataW.trod enc Tryz.prog w base spare held fuel 26 [.slice A n c] = some _ from hf) (fun cs y m hl ht hsy => by
  match cs, hl with
  | [u], _ =>
   obtain ⟨z, rfl, _⟩ := trod_i64 Tryz.underlying3 ht
   exact ⟨z, RowAt.one (.v rfl), trivial⟩)
 exact ⟨l, fun ρ ok => ⟨[_], .cons h1 .nil, by simp⟩⟩
theorem open_u8sA (hS : ∀ b, S b) {r : Reach} {b0 : Nat} {v : Value} {d : DataW H} {p : List MemPlace} (hv : Value.okWide Tryz.prog w r b0 22 v) (hs : Sz Tryz.prog 22 d) (h : DataW.Trod enc Tryz.prog w base spare held 22 v d p) :
    ∃ l : List Int, (∀ (ρ : Key → Hd) (ok : Key → Prop), AVRel (CRel S ρ ok w) (.one false [.d (.sl 1 (dSets l))]) v) ∧ u8s l := by
 obtain ⟨A, n, c, rfl⟩ := okWide_slice Tryz.underlying22 hv
 obtain ⟨fuel, hf⟩ := h
 obtain ⟨l, h1, h2⟩ := open_setsD (S := S) hS (by exact hs) (show DataW.trod enc Tryz.prog w base spare held fuel 22 [.slice A n c] = some _ from hf)
 exact ⟨l, fun ρ ok => ⟨[_], .cons h1 .nil, by simp⟩, h2⟩
theorem open_stepsA (hS : ∀ b, S b) {r : Reach} {b0 : Nat} {v : Value} {d : DataW H} {p : List MemPlace} (hv : Value.okWide Tryz.prog w r b0 27 v) (hs : Sz Tryz.prog 27 d) (h : DataW.Trod enc Tryz.prog w base spare held 27 v d p) :
    ∃ l : List StepD, ∀ (ρ : Key → Hd) (ok : Key → Prop), AVRel (CRel S ρ ok w) (.one false [.d (.sl 3 (dSteps l))]) v := by
 have cI : Tryz.prog.cellsOf 3 = 1 := by kernel_rfl
 obtain ⟨A, n, c, rfl⟩ := okWide_slice Tryz.underlying27 hv
 obtain ⟨fuel, hf⟩ := h
 obtain ⟨l, h1, _, _⟩ := open_rd (S := S) hS stepRow (fun _ => True) Tryz.underlying27 (k := 3) (by kernel_rfl) (by decide) (by exact hs) (by kernel_rfl) (show DataW.trod enc Tryz.prog w base spare held fuel 27 [.slice A n c] = some _ from hf) (fun cs y m hl ht hsy => by
  obtain ⟨n', _, hfd⟩ := trod_fields Tryz.underlying46 hsy ht
  match cs, hl with
  | [u0, u1, u2], _ =>
   obtain ⟨y0, t0, _⟩ := hfd 0 _ rfl
   obtain ⟨y1, t1, _⟩ := hfd 1 _ rfl
   obtain ⟨y2, t2, _⟩ := hfd 2 _ rfl
   simp [cI] at t0 t1 t2
   obtain ⟨z0, rfl, _⟩ := trod_i64 Tryz.underlying3 t0
   obtain ⟨z1, rfl, _⟩ := trod_i64 Tryz.underlying3 t1
   obtain ⟨z2, rfl, _⟩ := trod_i64 Tryz.underlying3 t2
   exact ⟨⟨z0, z1, z2⟩, .cons (.v rfl) (.cons (.v rfl) (.one (.v rfl))), trivial⟩)
 exact ⟨l, fun ρ ok => ⟨[_], .cons h1 .nil, by simp⟩⟩
theorem open_draftA (hS : ∀ b, S b) {r : Reach} {b0 : Nat} {v : Value} {d : DataW H} {p : List MemPlace} (hv : Value.okWide Tryz.prog w r b0 25 v) (hs : Sz Tryz.prog 25 d) (h : DataW.Trod enc Tryz.prog w base spare held 25 v d p) :
    ∃ x : DraftD, (∀ (ρ : Key → Hd) (ok : Key → Prop), AVRel (CRel S ρ ok w) (.one true (draftC x)) v) ∧ draftOK x := by
 have cI : Tryz.prog.cellsOf 22 = 1 := by kernel_rfl
 have cT : Tryz.prog.cellsOf 23 = 1 := by kernel_rfl
 have c4 : Tryz.prog.cellsOf 25 = 4 := by kernel_rfl
 unfold Value.okWide at hv
 rw [Tryz.underlying25] at hv
 obtain ⟨cs, rfl, hsz, _⟩ := hv
 obtain ⟨fuel, hf⟩ := h
 obtain ⟨n, hl, hfe⟩ := trod_fields Tryz.underlying25 (by exact hs) hf
 rw [c4] at hsz
 obtain ⟨cs⟩ := cs
 match cs, hsz with
 | [u0, u1, u2, u3], _ =>
  obtain ⟨y0, t0, s0⟩ := hfe 0 _ rfl
  obtain ⟨y1, t1, s1⟩ := hfe 1 _ rfl
  obtain ⟨y2, t2, s2⟩ := hfe 2 _ rfl
  obtain ⟨y3, t3, s3⟩ := hfe 3 _ rfl
  clear hf hl hfe
  simp [cI, cT, Value.cells] at t0 t1 t2 t3
  obtain ⟨l0, r0, q0⟩ := open_setsD hS s0 t0
  obtain ⟨l1, r1, q1⟩ := open_setsD hS s1 t1
  obtain ⟨l2, r2, q2⟩ := open_setsD hS s2 t2
  obtain ⟨l3, r3, q3⟩ := open_linksD hS s3 t3
  exact ⟨⟨l0, l1, l2, l3⟩, fun ρ ok => ⟨[u0, u1, u2, u3], .cons r0 (.cons r1 (.cons r2 (.cons r3 .nil))), by simp⟩, ⟨q0, q1, q2, q3⟩⟩
theorem open_pairA {r : Reach} {b0 : Nat} {v : Value} {d : DataW H} {p : List MemPlace} (hv : Value.okWide Tryz.prog w r b0 82 v) (hs : Sz Tryz.prog 82 d) (h : DataW.Trod enc Tryz.prog w base spare held 82 v d p) :
    ∃ x y : Int, ∀ (ρ : Key → Hd) (ok : Key → Prop), AVRel (CRel S ρ ok w) (.one true [.d (.v (.int .i64 x)), .d (.v (.int .i64 y))]) v := by
 have hA : Tryz.prog.underlying 82 = some (.array 2 3) := by kernel_rfl
 have cI : Tryz.prog.cellsOf 3 = 1 := by kernel_rfl
 have c2 : Tryz.prog.cellsOf 82 = 2 := by kernel_rfl
 unfold Value.okWide at hv
 rw [hA] at hv
 obtain ⟨cs, rfl, hsz, _⟩ := hv
 obtain ⟨fuel, hf⟩ := h
 obtain ⟨xs, m, _, _, _, hx, hfd⟩ := DataW.trod_array hA hf
 rw [c2] at hsz
 obtain ⟨cs⟩ := cs
 match cs, hsz with
 | [u0, u1], _ =>
  have t0 := hfd 0 (by decide)
  have t1 := hfd 1 (by decide)
  rw [cI] at t0 t1
  obtain ⟨e0, h0⟩ : ∃ e, xs[0]? = some e := ⟨xs[0], List.getElem?_eq_getElem (by omega)⟩
  obtain ⟨e1, h1⟩ : ∃ e, xs[1]? = some e := ⟨xs[1], List.getElem?_eq_getElem (by omega)⟩
  rw [h0] at t0
  rw [h1] at t1
  simp [Value.cells] at t0 t1
  obtain ⟨z0, rfl, _⟩ := trod_i64 Tryz.underlying3 t0
  obtain ⟨z1, rfl, _⟩ := trod_i64 Tryz.underlying3 t1
  exact ⟨z0, z1, fun ρ ok => ⟨_, .cons (.v rfl) (.cons (.v rfl) .nil), by simp⟩⟩
end
end Go.Proofs.YtdpeoolildjohaaGreatDoor

