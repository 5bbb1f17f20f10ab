/-
  Arguments as data of the abstract machine: slices, matrices, tables, problems; from a contract of the machine to a call.
-/
import Derived.Test.YtliooohflhogpaaGreatDoorRowE
import Derived.Test.YtliooohflhogpaaGreatDoorFlD
namespace Go.Proofs.YtliooohflhogpaaGreatDoor
open Go.ChangeShapes Go.WideShapes Go.ChangeAt Go.RowKit Go.Joins Go.Deep
set_option linter.unusedSimpArgs false
set_option linter.unusedVariables false
set_option maxRecDepth 100000
section
variable {H : Type} {enc : TypeId × Value → H} {P : Program} {w : World} {base : Nat} {spare : Nat → Bool} {held : Bool} {S : Nat → Prop}
def RowAt (S : Nat → Prop) (w : World) (row : List D) (cs : List Value) : Prop := row.length = cs.length ∧ ∀ (j : Nat) (d : D), row[j]? = some d → ∃ u, cs[j]? = some u ∧ Rd S w d u
theorem RowAt.one {d : D} {u : Value} (h : Rd S w d u) : RowAt S w [d] [u] := ⟨rfl, fun j d' hj => by
  match j, hj with
  | 0, hj => simp at hj; subst hj; exact ⟨u, rfl, h⟩
  | j + 1, hj => simp at hj⟩
theorem RowAt.cons {d : D} {u : Value} {row : List D} {cs : List Value} (h : Rd S w d u) (t : RowAt S w row cs) : RowAt S w (d :: row) (u :: cs) := ⟨by simp [t.1], fun j d' hj => by
  match j, hj with
  | 0, hj => simp at hj; subst hj; exact ⟨u, rfl, h⟩
  | j + 1, hj => exact t.2 j d' (by simpa using hj)⟩
/-- A slice reads as a list, element by element. -/
theorem open_rd {α : Type} (hS : ∀ b, S b) (f : α → List D) (Q : α → Prop) {t e : TypeId} {fuel : Nat} {v : Value} {x : DataW H × List MemPlace} (ht : P.underlying t = some (.slice e)) {k : Nat} (hC : P.cellsOf e = k) (hpos : 0 < k) (hs : Sz P t x.1) (hby : decide (0 < P.bytesOf e) = true) (hf : DataW.trod enc P w base spare held fuel t [v] = some x)
    (hel : ∀ (cs : List Value) (y : DataW H × List MemPlace) (m : Nat), cs.length = k → DataW.trod enc P w base spare held m e cs = some y → Sz P e y.1 → ∃ x : α, RowAt S w (f x) cs ∧ Q x) :
    ∃ l : List α, Rd S w (.sl k (l.map f)) v ∧ l.length ≤ reachBytes ∧ ∀ x ∈ l, Q x := by
  obtain ⟨A, n, c, rfl, hn, hnc, hi⟩ := trod_elems ht hC hpos hs hby hf
  have hex : ∀ i, i < n → ∃ x : α, (∃ b off cs, A = some ⟨b, off, none⟩ ∧ b < w.heap.size ∧ List.length cs = k ∧ (∀ j, j < k → w.cell? ⟨b, off + (i * k + j), none⟩ = cs[j]?) ∧ RowAt S w (f x) cs) ∧ Q x := fun i hin => by
    obtain ⟨b, off, hA, hb, cs, y, m, hl, hc, ht', hsy⟩ := hi i hin
    obtain ⟨x, h1, h2⟩ := hel cs y m hl ht' hsy
    exact ⟨x, ⟨b, off, cs, hA, hb, hl, hc, h1⟩, h2⟩
  obtain ⟨l, hl, hE⟩ := pick_list hex
  refine ⟨l, ?_, by omega, fun x hx => by obtain ⟨i, hi', rfl⟩ := List.getElem_of_mem hx; exact (hE i hi').2⟩
  have hlen : (l.map f).length = n := by simp [hl]
  have hat : ∀ (i : Nat) (row : List D), (l.map f)[i]? = some row → ∃ (h : i < l.length), row = f l[i] := fun i row h => by
    rw [List.getElem?_map] at h
    obtain ⟨y, h1, h2⟩ := Option.map_eq_some_iff.1 h
    obtain ⟨h3, h4⟩ := List.getElem?_eq_some_iff.1 h1
    exact ⟨h3, by rw [← h2, h4]⟩
  by_cases h0 : n = 0
  · subst h0
    obtain rfl : l = [] := List.length_eq_zero_iff.1 hl
    exact Rd.sl (rows := []) (A := A) (c := c) (b := 0) (o := 0) (cv := fun _ _ => undef) (by simp) (by simp) (fun h => absurd rfl h) (by simp) (by simp) (by simp)
  · obtain ⟨⟨b, off, cs0, hA, hb, _⟩, _⟩ := hE 0 (by omega)
    have key : ∀ (i : Nat) (row : List D) (j : Nat) (d : D), (l.map f)[i]? = some row → row[j]? = some d → ∃ u, w.cell? ⟨b, off + (i * k + j), none⟩ = some u ∧ Rd S w d u := by
      intro i row j d h1 h2
      obtain ⟨hil, rfl⟩ := hat i row h1
      obtain ⟨⟨b', off', cs, hA', _, hcl, hc, hr⟩, _⟩ := hE i hil
      rw [hA] at hA'
      cases hA'
      obtain ⟨u, u1, u2⟩ := hr.2 j d h2
      have hjk : j < k := by
        rcases Nat.lt_or_ge j cs.length with h | h
        · omega
        · rw [List.getElem?_eq_none h] at u1; cases u1
      exact ⟨u, by rw [hc j hjk]; exact u1, u2⟩
    have := Rd.sl (S := S) (w := w) (sz := k) (rows := l.map f) (A := A) (c := c) (b := b) (o := off) (cv := fun i j => (w.cell? ⟨b, off + (i * k + j), none⟩).getD undef) (by omega) (by rw [hlen]; unfold reachBytes at hn; omega) (fun _ => ⟨hA, hb, hS b⟩)
      (fun i row h1 => by
        obtain ⟨hil, rfl⟩ := hat i row h1
        obtain ⟨⟨_, _, cs, _, _, hcl, _, hr⟩, _⟩ := hE i hil
        rw [hr.1, hcl])
      (fun i row j d h1 h2 => by obtain ⟨u, u1, u2⟩ := key i row j d h1 h2; simp [u1])
      (fun i row j d h1 h2 => by obtain ⟨u, u1, u2⟩ := key i row j d h1 h2; simpa [u1] using u2)
    rw [hlen] at this
    exact this
theorem trod_bool' {n : Nat} {t : TypeId} {v : Value} {y : DataW H × List MemPlace} (ht : P.underlying t = some .bool) (h : DataW.trod enc P w base spare held n t [v] = some y) : ∃ b, v = .bool b := by
  obtain ⟨b, h1, _⟩ := DataW.trod_bool ht h
  simp at h1
  exact ⟨b, h1⟩
end
section
variable {H : Type} {enc : TypeId × Value → H} {w : World} {base : Nat} {spare : Nat → Bool} {held : Bool} {S : Nat → Prop}
theorem open_intsD (hS : ∀ b, S b) {fuel : Nat} {v : Value} {x : DataW H × List MemPlace} (hs : Sz Tryz.prog 22 x.1) (hf : DataW.trod enc Tryz.prog w base spare held fuel 22 [v] = some x) : ∃ l : List Int, Rd S w (.sl 1 (dInts l)) v ∧ l.length ≤ reachBytes := by
  obtain ⟨l, h1, h2, _⟩ := open_rd (S := S) hS (fun x : Int => [.v (.int .i64 x)]) (fun _ => True) Tryz.underlying22 (k := 1) (by kernel_rfl) (by decide) hs (by kernel_rfl) hf (fun cs y m hl ht hsy => by
    match cs, hl with
    | [u], _ =>
      obtain ⟨z, rfl, _⟩ := trod_i64 Tryz.underlying3 ht
      exact ⟨z, RowAt.one (.v rfl), trivial⟩)
  exact ⟨l, h1, h2⟩
theorem open_boolsD (hS : ∀ b, S b) {fuel : Nat} {v : Value} {x : DataW H × List MemPlace} (hs : Sz Tryz.prog 50 x.1) (hf : DataW.trod enc Tryz.prog w base spare held fuel 50 [v] = some x) : ∃ l : List Bool, Rd S w (.sl 1 (dBools l)) v ∧ l.length ≤ reachBytes := by
  obtain ⟨l, h1, h2, _⟩ := open_rd (S := S) hS (fun x : Bool => [.v (.bool x)]) (fun _ => True) Tryz.underlying50 (k := 1) (by kernel_rfl) (by decide) hs (by kernel_rfl) hf (fun cs y m hl ht hsy => by
    match cs, hl with
    | [u], _ =>
      obtain ⟨z, rfl⟩ := trod_bool' Tryz.underlying4 ht
      exact ⟨z, RowAt.one (.v rfl), trivial⟩)
  exact ⟨l, h1, h2⟩
def MatSm (m : List (List Bool)) : Prop := m.length ≤ reachBytes ∧ ∀ r ∈ m, r.length ≤ reachBytes
theorem open_matD (hS : ∀ b, S b) {fuel : Nat} {v : Value} {x : DataW H × List MemPlace} (hs : Sz Tryz.prog 51 x.1) (hf : DataW.trod enc Tryz.prog w base spare held fuel 51 [v] = some x) : ∃ m : List (List Bool), Rd S w (.sl 1 (dMat m)) v ∧ MatSm m := by
  obtain ⟨l, h1, h2, h3⟩ := open_rd (S := S) hS (fun r : List Bool => [.sl 1 (dBools r)]) (fun r => r.length ≤ reachBytes) Tryz.underlying51 (k := 1) (by kernel_rfl) (by decide) hs (by kernel_rfl) hf (fun cs y m hl ht hsy => by
    match cs, hl with
    | [u], _ =>
      obtain ⟨z, h1, h2⟩ := open_boolsD hS hsy ht
      exact ⟨z, RowAt.one h1, h2⟩)
  exact ⟨l, h1, h2, h3⟩
def TabSm (t : Tab) : Prop := MatSm t.ok ∧ MatSm t.rw
theorem open_tabsD (hS : ∀ b, S b) {fuel : Nat} {v : Value} {x : DataW H × List MemPlace} (hs : Sz Tryz.prog 23 x.1) (hf : DataW.trod enc Tryz.prog w base spare held fuel 23 [v] = some x) : ∃ l : List Tab, Rd S w (.sl 6 (dTabs l)) v ∧ l.length ≤ reachBytes ∧ ∀ t ∈ l, TabSm t := by
  have cI : Tryz.prog.cellsOf 3 = 1 := by kernel_rfl
  have cB : Tryz.prog.cellsOf 4 = 1 := by kernel_rfl
  have cM : Tryz.prog.cellsOf 51 = 1 := by kernel_rfl
  obtain ⟨l, h1, h2, h3⟩ := open_rd (S := S) hS tabRow TabSm Tryz.underlying23 (k := 6) (by kernel_rfl) (by decide) hs (by kernel_rfl) hf (fun cs y m hl ht hsy => by
    obtain ⟨n', _, hfd⟩ := trod_fields Tryz.underlying53 hsy ht
    match cs, hl with
    | [u0, u1, u2, u3, u4, u5], _ =>
      obtain ⟨y0, t0, _⟩ := hfd 0 _ rfl
      obtain ⟨y1, t1, _⟩ := hfd 1 _ rfl
      obtain ⟨y2, t2, _⟩ := hfd 2 _ rfl
      obtain ⟨y3, t3, _⟩ := hfd 3 _ rfl
      obtain ⟨y4, t4, s4⟩ := hfd 4 _ rfl
      obtain ⟨y5, t5, s5⟩ := hfd 5 _ rfl
      simp [cI, cB, cM] at t0 t1 t2 t3 t4 t5
      obtain ⟨z0, rfl, _⟩ := trod_i64 Tryz.underlying3 t0
      obtain ⟨z1, rfl, _⟩ := trod_i64 Tryz.underlying3 t1
      obtain ⟨z2, rfl, _⟩ := trod_i64 Tryz.underlying3 t2
      obtain ⟨z3, rfl⟩ := trod_bool' Tryz.underlying4 t3
      obtain ⟨m4, r4, q4⟩ := open_matD hS s4 t4
      obtain ⟨m5, r5, q5⟩ := open_matD hS s5 t5
      exact ⟨⟨z0, z1, z2, z3, m4, m5⟩, .cons (.v rfl) (.cons (.v rfl) (.cons (.v rfl) (.cons (.v rfl) (.cons r4 (.one r5))))), q4, q5⟩)
  exact ⟨l, h1, h2, h3⟩
def ProbSm (p : Prob) : Prop := p.vs.length ≤ reachBytes ∧ p.now.length ≤ reachBytes ∧ p.tgt.length ≤ reachBytes ∧ p.tabs.length ≤ reachBytes ∧ ∀ t ∈ p.tabs, TabSm t
theorem open_probD (hS : ∀ b, S b) {r : Reach} {b0 : Nat} {v : Value} {d : DataW H} {p : List MemPlace} (hv : Value.okWide Tryz.prog w r b0 25 v) (hs : Sz Tryz.prog 25 d) (h : DataW.Trod enc Tryz.prog w base spare held 25 v d p) :
    ∃ p : Prob, (∀ (ρ : Key → Hd) (ok : Key → Prop), AVRel (CRel S ρ ok w) (.one true (probC p)) v) ∧ ProbSm p := by
  have cI : Tryz.prog.cellsOf 22 = 1 := by kernel_rfl
  have cT : Tryz.prog.cellsOf 23 = 1 := by kernel_rfl
  have c4 : Tryz.prog.cellsOf 25 = 4 := by kernel_rfl
  unfold Value.okWide at hv
  rw [Tryz.underlying25] at hv
  obtain ⟨cs, rfl, hsz, _⟩ := hv
  obtain ⟨fuel, hf⟩ := h
  obtain ⟨n, hl, hfd⟩ := trod_fields Tryz.underlying25 (by exact hs) hf
  rw [c4] at hsz
  obtain ⟨cs⟩ := cs
  match cs, hsz with
  | [u0, u1, u2, u3], _ =>
    obtain ⟨y0, t0, s0⟩ := hfd 0 _ rfl
    obtain ⟨y1, t1, s1⟩ := hfd 1 _ rfl
    obtain ⟨y2, t2, s2⟩ := hfd 2 _ rfl
    obtain ⟨y3, t3, s3⟩ := hfd 3 _ rfl
    clear hfd hf hl
    simp [cI, cT, Value.cells] at t0 t1 t2 t3
    obtain ⟨l0, r0, q0⟩ := open_intsD hS s0 t0
    obtain ⟨l1, r1, q1⟩ := open_intsD hS s1 t1
    obtain ⟨l2, r2, q2⟩ := open_intsD hS s2 t2
    obtain ⟨l3, r3, q3, q4⟩ := open_tabsD hS s3 t3
    exact ⟨⟨l0, l1, l2, l3⟩, fun ρ ok => ⟨[u0, u1, u2, u3], .cons r0 (.cons r1 (.cons r2 (.cons r3 .nil))), by simp⟩, q0, q1, q2, q3, q4⟩
theorem open_intsA (hS : ∀ b, S b) {r : Reach} {b0 : Nat} {v : Value} {d : DataW H} {p : List MemPlace} (hv : Value.okWide Tryz.prog w r b0 22 v) (hs : Sz Tryz.prog 22 d) (h : DataW.Trod enc Tryz.prog w base spare held 22 v d p) :
    ∃ l : List Int, (∀ (ρ : Key → Hd) (ok : Key → Prop), AVRel (CRel S ρ ok w) (.one false [.d (.sl 1 (dInts l))]) v) ∧ l.length ≤ reachBytes := by
  obtain ⟨A, n, c, rfl⟩ := okWide_slice Tryz.underlying22 hv
  obtain ⟨fuel, hf⟩ := h
  obtain ⟨l, h1, h2⟩ := open_intsD (S := S) hS (by exact hs) (show DataW.trod enc Tryz.prog w base spare held fuel 22 [.slice A n c] = some _ from hf)
  exact ⟨l, fun ρ ok => ⟨[_], .cons h1 .nil, by simp⟩, h2⟩
end
end Go.Proofs.YtliooohflhogpaaGreatDoor
