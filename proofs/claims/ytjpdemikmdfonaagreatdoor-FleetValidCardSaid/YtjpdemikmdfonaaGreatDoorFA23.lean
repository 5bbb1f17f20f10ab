/- Rules of runs and contracts of functions, for the claims of one seat. -/
import Derived.Test.YtjpdemikmdfonaaGreatDoorFA2
import Derived.Test.YtjpdemikmdfonaaGreatDoorFA22
namespace Go.Proofs.YtjpdemikmdfonaaGreatDoor
open Go.ChangeShapes Go.WideShapes Go.ChangeAt Go.RowKit Go.Joins Go.Deep
set_option maxRecDepth 100000
set_option maxHeartbeats 8000000
set_option linter.unusedSimpArgs false
set_option linter.unusedVariables false
section
variable {H : Type} {enc : TypeId × Value → H} {P : Program} {w : World} {base : Nat} {spare : Nat → Bool} {held : Bool} {S : Nat → Prop}
def RowAt (S : Nat → Prop) (w : World) (row : List D) (cs : List Value) : Prop := row.length = cs.length ∧ ∀ (j : Nat) (d : D), row[j]? = some d → ∃ u, cs[j]? = some u ∧ Rd S w d u
theorem RowAt.one {d : D} {u : Value} (h : Rd S w d u) : RowAt S w [d] [u] := ⟨rfl, fun j d' hj => by
 match j, hj with
 | 0, hj => simp at hj; subst hj; exact ⟨u, rfl, h⟩
 | j + 1, hj => simp at hj⟩
theorem RowAt.cons {d : D} {u : Value} {row : List D} {cs : List Value} (h : Rd S w d u) (t : RowAt S w row cs) : RowAt S w (d :: row) (u :: cs) := ⟨by simp [t.1], fun j d' hj => by
 match j, hj with
 | 0, hj => simp at hj; subst hj; exact ⟨u, rfl, h⟩
 | j + 1, hj => exact t.2 j d' (by simpa using hj)⟩
theorem RowAt.append {r1 r2 : List D} {c1 c2 : List Value} (h1 : RowAt S w r1 c1) (h2 : RowAt S w r2 c2) : RowAt S w (r1 ++ r2) (c1 ++ c2) := by
 refine ⟨by rw [List.length_append, List.length_append, h1.1, h2.1], fun j d hj => ?_⟩
 rcases Nat.lt_or_ge j r1.length with h | h
 ·rw [List.getElem?_append_left h] at hj
  rw [List.getElem?_append_left (by rw [← h1.1]; exact h)]
  exact h1.2 j d hj
 ·rw [List.getElem?_append_right h] at hj
  rw [List.getElem?_append_right (by rw [← h1.1]; exact h), ← h1.1]
  exact h2.2 _ d hj
theorem open_rdL {α : Type} (hS : ∀ b, S b) (f : α → List D) (Q : α → Prop) {t e : TypeId} {fuel : Nat} {v : Value} {x : DataW H × List MemPlace} (ht : P.underlying t = some (.slice e)) {k : Nat} (hC : P.cellsOf e = k) (hpos : 0 < k) (hs : Sz P t x.1) (hby : decide (24 ≤ P.bytesOf e) = true) (hf : DataW.trod enc P w base spare held fuel t [v] = some x)
    (hel : ∀ (cs : List Value) (y : DataW H × List MemPlace) (m : Nat), cs.length = k → DataW.trod enc P w base spare held m e cs = some y → Sz P e y.1 → SizeOf.sizeOf y.1 < SizeOf.sizeOf x.1 → ∃ x : α, RowAt S w (f x) cs ∧ Q x) :
    ∃ l : List α, Rd S w (.sl k (l.map f)) v ∧ l.length ≤ 5900000000000 ∧ ∀ x ∈ l, Q x := by
 obtain ⟨A, n, c, rfl, hn0, hnc, hi⟩ := trod_elemsF ht hC hpos hs (decide_eq_true (Nat.lt_of_lt_of_le (by decide) (of_decide_eq_true hby))) hf
 have hn : n ≤ 5900000000000 := by
  have h1 := Nat.mul_le_mul_left n (of_decide_eq_true hby)
  unfold reachBytes at hn0
  omega
 have hex : ∀ i, i < n → ∃ x : α, (∃ b off cs, A = some ⟨b, off, none⟩ ∧ b < w.heap.size ∧ List.length cs = k ∧ (∀ j, j < k → w.cell? ⟨b, off + (i * k + j), none⟩ = cs[j]?) ∧ RowAt S w (f x) cs) ∧ Q x := fun i hin => by
  obtain ⟨b, off, hA, hb, cs, y, m, hl, hc, ht', hsy, hzy⟩ := hi i hin
  obtain ⟨z, h1, h2⟩ := hel cs y m hl ht' hsy hzy
  exact ⟨z, ⟨b, off, cs, hA, hb, hl, hc, h1⟩, h2⟩
 obtain ⟨l, hl, hE⟩ := pick_list hex
 refine ⟨l, ?_, by omega, fun x hx => by obtain ⟨i, hi', rfl⟩ := List.getElem_of_mem hx; exact (hE i hi').2⟩
 have hlen : (l.map f).length = n := by simp [hl]
 have hat : ∀ (i : Nat) (row : List D), (l.map f)[i]? = some row → ∃ (h : i < l.length), row = f l[i] := fun i row h => by
  rw [List.getElem?_map] at h
  obtain ⟨y, h1, h2⟩ := Option.map_eq_some_iff.1 h
  obtain ⟨h3, h4⟩ := List.getElem?_eq_some_iff.1 h1
  exact ⟨h3, by rw [← h2, h4]⟩
 by_cases h0 : n = 0
 ·subst h0
  obtain rfl : l = [] := List.length_eq_zero_iff.1 hl
  exact Rd.sl (rows := []) (A := A) (c := c) (b := 0) (o := 0) (cv := fun _ _ => undef) (by simp) (by simp) (fun h => absurd rfl h) (by simp) (by simp) (by simp)
 ·obtain ⟨⟨b, off, cs0, hA, hb, _⟩, _⟩ := hE 0 (by omega)
  have key : ∀ (i : Nat) (row : List D) (j : Nat) (d : D), (l.map f)[i]? = some row → row[j]? = some d → ∃ u, w.cell? ⟨b, off + (i * k + j), none⟩ = some u ∧ Rd S w d u := by
   intro i row j d h1 h2
   obtain ⟨hil, rfl⟩ := hat i row h1
   obtain ⟨⟨b', off', cs, hA', _, hcl, hc, hr⟩, _⟩ := hE i hil
   rw [hA] at hA'
   cases hA'
   obtain ⟨u, u1, u2⟩ := hr.2 j d h2
   have hjk : j < k := by
    rcases Nat.lt_or_ge j cs.length with h | h
    ·omega
    ·rw [List.getElem?_eq_none h] at u1; cases u1
   exact ⟨u, by rw [hc j hjk]; exact u1, u2⟩
  have := Rd.sl (S := S) (w := w) (sz := k) (rows := l.map f) (A := A) (c := c) (b := b) (o := off) (cv := fun i j => (w.cell? ⟨b, off + (i * k + j), none⟩).getD undef) (by omega) (by rw [hlen]; omega) (fun _ => ⟨hA, hb, hS b⟩)
   (fun i row h1 => by
    obtain ⟨hil, rfl⟩ := hat i row h1
    obtain ⟨⟨_, _, cs, _, _, hcl, _, hr⟩, _⟩ := hE i hil
    rw [hr.1, hcl])
   (fun i row j d h1 h2 => by obtain ⟨u, u1, u2⟩ := key i row j d h1 h2; simp [u1])
   (fun i row j d h1 h2 => by obtain ⟨u, u1, u2⟩ := key i row j d h1 h2; simpa [u1] using u2)
  rw [hlen] at this
  exact this
theorem trod_bool' {n : Nat} {t : TypeId} {v : Value} {y : DataW H × List MemPlace} (ht : P.underlying t = some .bool) (h : DataW.trod enc P w base spare held n t [v] = some y) : ∃ b, v = .bool b := by
 obtain ⟨b, h1, _⟩ := DataW.trod_bool ht h
 simp at h1
 exact ⟨b, h1⟩
end
section
variable {H : Type} {enc : TypeId × Value → H} {w : World} {base : Nat} {spare : Nat → Bool} {held : Bool} {S : Nat → Prop}
theorem trod_str' {n : Nat} {t : TypeId} {v : Value} {y : DataW H × List MemPlace} (ht : Tryz.prog.underlying t = some .string) (h : DataW.trod enc Tryz.prog w base spare held n t [v] = some y) : ∃ s, v = .string s := by
 obtain ⟨z, e, _⟩ := DataW.trod_string ht h
 simp at e
 exact ⟨_, e⟩
theorem cellsI : Tryz.prog.cellsOf 3 = 1 := by kernel_rfl
theorem cellsJ : Tryz.prog.cellsOf 2 = 1 := by kernel_rfl
theorem cellsB : Tryz.prog.cellsOf 4 = 1 := by kernel_rfl
theorem cellsS : Tryz.prog.cellsOf 9 = 1 := by kernel_rfl
theorem cellsL0 : Tryz.prog.cellsOf 116 = 1 := by kernel_rfl
theorem cellsL1 : Tryz.prog.cellsOf 115 = 1 := by kernel_rfl
theorem cellsL2 : Tryz.prog.cellsOf 70 = 1 := by kernel_rfl
theorem cellsL3 : Tryz.prog.cellsOf 71 = 1 := by kernel_rfl
theorem cellsL4 : Tryz.prog.cellsOf 48 = 1 := by kernel_rfl
theorem cellsL5 : Tryz.prog.cellsOf 51 = 1 := by kernel_rfl
theorem cellsL6 : Tryz.prog.cellsOf 89 = 1 := by kernel_rfl
theorem cellsL7 : Tryz.prog.cellsOf 90 = 1 := by kernel_rfl
theorem cellsL8 : Tryz.prog.cellsOf 52 = 1 := by kernel_rfl
theorem cellsL9 : Tryz.prog.cellsOf 53 = 1 := by kernel_rfl
theorem cellsV : Tryz.prog.cellsOf 118 = 8 := by kernel_rfl
theorem cellsA : Tryz.prog.cellsOf 92 = 3 := by kernel_rfl
theorem cellsD : Tryz.prog.cellsOf 50 = 1 := by kernel_rfl
theorem open_raws (hS : ∀ b, S b) {fuel : Nat} {v : Value} {x : DataW H × List MemPlace} (hs : Sz Tryz.prog 116 x.1) (hf : DataW.trod enc Tryz.prog w base spare held fuel 116 [v] = some x) : ∃ l : List RawD, Rd S w (.sl 2 (l.map rawRow)) v ∧ l.length ≤ 5900000000000 := by
 obtain ⟨l, h1, h2, _⟩ := open_rdL (S := S) hS rawRow (fun _ => True) Tryz.underlying116 (k := 2) (by kernel_rfl) (by decide) hs (by kernel_rfl) hf (fun cs y m hl ht hsy _ => by
  obtain ⟨n', _, hfd⟩ := trod_fields Tryz.underlying142 hsy ht
  match cs, hl with
  | [u0, u1], _ =>
   obtain ⟨y0, t0, _⟩ := hfd 0 _ rfl
   obtain ⟨y1, t1, _⟩ := hfd 1 _ rfl
   simp [cellsI, cellsJ, cellsB, cellsS] at t0 t1
   obtain ⟨z0, rfl, _⟩ := trod_i64 Tryz.underlying3 t0
   obtain ⟨z1, rfl⟩ := trod_str' Tryz.underlying9 t1
   exact ⟨⟨z0, z1⟩, .cons (.v rfl) (.one (.v rfl)), trivial⟩)
 exact ⟨l, h1, h2⟩
theorem open_syms (hS : ∀ b, S b) {fuel : Nat} {v : Value} {x : DataW H × List MemPlace} (hs : Sz Tryz.prog 70 x.1) (hf : DataW.trod enc Tryz.prog w base spare held fuel 70 [v] = some x) : ∃ l : List SymD, Rd S w (.sl 2 (l.map symRow)) v ∧ l.length ≤ 5900000000000 := by
 obtain ⟨l, h1, h2, _⟩ := open_rdL (S := S) hS symRow (fun _ => True) Tryz.underlying70 (k := 2) (by kernel_rfl) (by decide) hs (by kernel_rfl) hf (fun cs y m hl ht hsy _ => by
  obtain ⟨n', _, hfd⟩ := trod_fields Tryz.underlying296 hsy ht
  match cs, hl with
  | [u0, u1], _ =>
   obtain ⟨y0, t0, _⟩ := hfd 0 _ rfl
   obtain ⟨y1, t1, _⟩ := hfd 1 _ rfl
   simp [cellsI, cellsJ, cellsB, cellsS] at t0 t1
   obtain ⟨z0, rfl, _⟩ := trod_i64 Tryz.underlying3 t0
   obtain ⟨z1, rfl⟩ := trod_str' Tryz.underlying9 t1
   exact ⟨⟨z0, z1⟩, .cons (.v rfl) (.one (.v rfl)), trivial⟩)
 exact ⟨l, h1, h2⟩
theorem open_calls (hS : ∀ b, S b) {fuel : Nat} {v : Value} {x : DataW H × List MemPlace} (hs : Sz Tryz.prog 51 x.1) (hf : DataW.trod enc Tryz.prog w base spare held fuel 51 [v] = some x) : ∃ l : List CallD, Rd S w (.sl 3 (l.map callRow)) v ∧ l.length ≤ 5900000000000 := by
 obtain ⟨l, h1, h2, _⟩ := open_rdL (S := S) hS callRow (fun _ => True) Tryz.underlying51 (k := 3) (by kernel_rfl) (by decide) hs (by kernel_rfl) hf (fun cs y m hl ht hsy _ => by
  obtain ⟨n', _, hfd⟩ := trod_fields Tryz.underlying127 hsy ht
  match cs, hl with
  | [u0, u1, u2], _ =>
   obtain ⟨y0, t0, _⟩ := hfd 0 _ rfl
   obtain ⟨y1, t1, _⟩ := hfd 1 _ rfl
   obtain ⟨y2, t2, _⟩ := hfd 2 _ rfl
   simp [cellsI, cellsJ, cellsB, cellsS] at t0 t1 t2
   obtain ⟨z0, rfl⟩ := trod_str' Tryz.underlying9 t0
   obtain ⟨z1, rfl, _⟩ := trod_i64 Tryz.underlying3 t1
   obtain ⟨z2, rfl, _⟩ := trod_i64 Tryz.underlying3 t2
   exact ⟨⟨z0, z1, z2⟩, .cons (.v rfl) (.cons (.v rfl) (.one (.v rfl))), trivial⟩)
 exact ⟨l, h1, h2⟩
theorem open_msgs (hS : ∀ b, S b) {fuel : Nat} {v : Value} {x : DataW H × List MemPlace} (hs : Sz Tryz.prog 89 x.1) (hf : DataW.trod enc Tryz.prog w base spare held fuel 89 [v] = some x) : ∃ l : List MsgD, Rd S w (.sl 3 (l.map msgRow)) v ∧ l.length ≤ 5900000000000 := by
 obtain ⟨l, h1, h2, _⟩ := open_rdL (S := S) hS msgRow (fun _ => True) Tryz.underlying89 (k := 3) (by kernel_rfl) (by decide) hs (by kernel_rfl) hf (fun cs y m hl ht hsy _ => by
  obtain ⟨n', _, hfd⟩ := trod_fields Tryz.underlying189 hsy ht
  match cs, hl with
  | [u0, u1, u2], _ =>
   obtain ⟨y0, t0, _⟩ := hfd 0 _ rfl
   obtain ⟨y1, t1, _⟩ := hfd 1 _ rfl
   obtain ⟨y2, t2, _⟩ := hfd 2 _ rfl
   simp [cellsI, cellsJ, cellsB, cellsS] at t0 t1 t2
   obtain ⟨z0, rfl, _⟩ := trod_i64 Tryz.underlying3 t0
   obtain ⟨z1, rfl⟩ := trod_str' Tryz.underlying9 t1
   obtain ⟨z2, rfl, _⟩ := trod_i64 Tryz.underlying3 t2
   exact ⟨⟨z0, z1, z2⟩, .cons (.v rfl) (.cons (.v rfl) (.one (.v rfl))), trivial⟩)
 exact ⟨l, h1, h2⟩
theorem open_edges (hS : ∀ b, S b) {fuel : Nat} {v : Value} {x : DataW H × List MemPlace} (hs : Sz Tryz.prog 90 x.1) (hf : DataW.trod enc Tryz.prog w base spare held fuel 90 [v] = some x) : ∃ l : List EdgeD, Rd S w (.sl 4 (l.map edgeRow)) v ∧ l.length ≤ 5900000000000 := by
 obtain ⟨l, h1, h2, _⟩ := open_rdL (S := S) hS edgeRow (fun _ => True) Tryz.underlying90 (k := 4) (by kernel_rfl) (by decide) hs (by kernel_rfl) hf (fun cs y m hl ht hsy _ => by
  obtain ⟨n', _, hfd⟩ := trod_fields Tryz.underlying193 hsy ht
  match cs, hl with
  | [u0, u1, u2, u3], _ =>
   obtain ⟨y0, t0, _⟩ := hfd 0 _ rfl
   obtain ⟨y1, t1, _⟩ := hfd 1 _ rfl
   obtain ⟨y2, t2, _⟩ := hfd 2 _ rfl
   obtain ⟨y3, t3, _⟩ := hfd 3 _ rfl
   simp [cellsI, cellsJ, cellsB, cellsS] at t0 t1 t2 t3
   obtain ⟨z0, rfl, _⟩ := trod_i64 Tryz.underlying3 t0
   obtain ⟨z1, rfl⟩ := trod_bool' Tryz.underlying4 t1
   obtain ⟨z2, rfl, _⟩ := trod_i64 Tryz.underlying3 t2
   obtain ⟨z3, rfl, _⟩ := trod_i64 Tryz.underlying3 t3
   exact ⟨⟨z0, z1, z2, z3⟩, .cons (.v rfl) (.cons (.v rfl) (.cons (.v rfl) (.one (.v rfl)))), trivial⟩)
 exact ⟨l, h1, h2⟩
theorem open_tops (hS : ∀ b, S b) {fuel : Nat} {v : Value} {x : DataW H × List MemPlace} (hs : Sz Tryz.prog 53 x.1) (hf : DataW.trod enc Tryz.prog w base spare held fuel 53 [v] = some x) : ∃ l : List TopD, Rd S w (.sl 2 (l.map topRow)) v ∧ l.length ≤ 5900000000000 := by
 obtain ⟨l, h1, h2, _⟩ := open_rdL (S := S) hS topRow (fun _ => True) Tryz.underlying53 (k := 2) (by kernel_rfl) (by decide) hs (by kernel_rfl) hf (fun cs y m hl ht hsy _ => by
  obtain ⟨n', _, hfd⟩ := trod_fields Tryz.underlying75 hsy ht
  match cs, hl with
  | [u0, u1], _ =>
   obtain ⟨y0, t0, _⟩ := hfd 0 _ rfl
   obtain ⟨y1, t1, _⟩ := hfd 1 _ rfl
   simp [cellsI, cellsJ, cellsB, cellsS] at t0 t1
   obtain ⟨z0, rfl⟩ := trod_str' Tryz.underlying9 t0
   obtain ⟨z1, rfl, _⟩ := trod_i64 Tryz.underlying3 t1
   exact ⟨⟨z0, z1⟩, .cons (.v rfl) (.one (.v rfl)), trivial⟩)
 exact ⟨l, h1, h2⟩
theorem smVs_of : ∀ {l : List ValD}, (∀ x ∈ l, smV x) → smVs l
 | [], _ => by unfold smVs; trivial
 | v :: r, h => by unfold smVs; exact ⟨h v (by simp), smVs_of fun x hx => h x (by simp [hx])⟩
theorem open_val (hS : ∀ b, S b) : ∀ (k : Nat) (cs : List Value) (y : DataW H × List MemPlace) (m : Nat), cs.length = 8 → DataW.trod enc Tryz.prog w base spare held m 118 cs = some y → Sz Tryz.prog 118 y.1 → SizeOf.sizeOf y.1 < k → ∃ x : ValD, RowAt S w (valRow x) cs ∧ smV x := by
 intro k
 induction k with
 | zero => intro cs y m _ _ _ h; omega
 | succ k ih =>
  intro cs y m hl ht hsy hz
  obtain ⟨n', _, hfd⟩ := trod_fieldsF Tryz.underlying118 hsy ht
  match cs, hl with
  | [u0, u1, u2, u3, u4, u5, u6, u7], _ =>
   obtain ⟨y0, t0, _⟩ := hfd 0 _ rfl
   obtain ⟨y1, t1, _⟩ := hfd 1 _ rfl
   obtain ⟨y2, t2, _⟩ := hfd 2 _ rfl
   obtain ⟨y3, t3, _⟩ := hfd 3 _ rfl
   obtain ⟨y4, t4, _⟩ := hfd 4 _ rfl
   obtain ⟨y5, t5, s5, z5⟩ := hfd 5 _ rfl
   obtain ⟨y6, t6, s6, z6⟩ := hfd 6 _ rfl
   obtain ⟨y7, t7, s7, z7⟩ := hfd 7 _ rfl
   simp [cellsI, cellsJ, cellsB, cellsS, cellsL0, cellsL1] at t0 t1 t2 t3 t4 t5 t6 t7
   obtain ⟨v0, rfl, _⟩ := trod_i64 Tryz.underlying3 t0
   obtain ⟨v1, rfl⟩ := trod_bool' Tryz.underlying4 t1
   obtain ⟨v2, rfl, q2⟩ := trod_i64 Tryz.underlying2 t2
   obtain ⟨v3, rfl⟩ := trod_str' Tryz.underlying9 t3
   obtain ⟨v4, rfl, _⟩ := trod_i64 Tryz.underlying3 t4
   obtain ⟨l5, r5, b5, q5⟩ := open_rdL (S := S) hS valRow smV Tryz.underlying115 (k := 8) (by kernel_rfl) (by decide) s5 (by kernel_rfl) t5 (fun cs' y' m' hl' ht' hsy' hz' => ih cs' y' m' hl' ht' hsy' (by omega))
   obtain ⟨l6, r6, b6, q6⟩ := open_rdL (S := S) hS valRow smV Tryz.underlying115 (k := 8) (by kernel_rfl) (by decide) s6 (by kernel_rfl) t6 (fun cs' y' m' hl' ht' hsy' hz' => ih cs' y' m' hl' ht' hsy' (by omega))
   obtain ⟨l7, r7, b7⟩ := open_raws hS s7 t7
   refine ⟨.mk v0 v1 v2 v3 v4 l5 l6 l7, ?_, ?_⟩
   ·rw [valRow_eq]
    exact .cons (.v rfl) (.cons (.v rfl) (.cons (.v rfl) (.cons (.v rfl) (.cons (.v rfl) (.cons r5 (.cons r6 (.one r7)))))))
   ·unfold smV
    exact ⟨⟨b5, b6, b7, q2.1, by have := q2.2; omega⟩, smVs_of q5, smVs_of q6⟩
theorem open_mems (hS : ∀ b, S b) {fuel : Nat} {v : Value} {x : DataW H × List MemPlace} (hs : Sz Tryz.prog 71 x.1) (hf : DataW.trod enc Tryz.prog w base spare held fuel 71 [v] = some x) : ∃ l : List MemD, Rd S w (.sl 13 (dMems l)) v ∧ l.length ≤ 5900000000000 ∧ ∀ x ∈ l, smV x.dflt := by
 obtain ⟨l, h1, h2, h3⟩ := open_rdL (S := S) hS memRow (fun x => smV x.dflt) Tryz.underlying71 (k := 13) (by kernel_rfl) (by decide) hs (by kernel_rfl) hf (fun cs y m hl ht hsy _ => by
  obtain ⟨n', _, hfd⟩ := trod_fields Tryz.underlying120 hsy ht
  match cs, hl with
  | [u0, u1, u2, u3, u4, a0, a1, a2, a3, a4, a5, a6, a7], _ =>
   obtain ⟨y0, t0, _⟩ := hfd 0 _ rfl
   obtain ⟨y1, t1, _⟩ := hfd 1 _ rfl
   obtain ⟨y2, t2, _⟩ := hfd 2 _ rfl
   obtain ⟨y3, t3, _⟩ := hfd 3 _ rfl
   obtain ⟨y4, t4, _⟩ := hfd 4 _ rfl
   obtain ⟨y5, t5, s5⟩ := hfd 5 _ rfl
   simp [cellsI, cellsJ, cellsB, cellsS, cellsV] at t0 t1 t2 t3 t4 t5
   obtain ⟨v0, rfl, _⟩ := trod_i64 Tryz.underlying3 t0
   obtain ⟨v1, rfl⟩ := trod_str' Tryz.underlying9 t1
   obtain ⟨v2, rfl, _⟩ := trod_i64 Tryz.underlying3 t2
   obtain ⟨v3, rfl⟩ := trod_bool' Tryz.underlying4 t3
   obtain ⟨v4, rfl⟩ := trod_bool' Tryz.underlying4 t4
   obtain ⟨d, hd, qd⟩ := open_val hS _ _ _ _ rfl t5 s5 (Nat.lt_succ_self _)
   rw [valRow_eq] at hd
   exact ⟨⟨v0, v1, v2, v3, v4, d⟩, .cons (.v rfl) (.cons (.v rfl) (.cons (.v rfl) (.cons (.v rfl) (.cons (.v rfl) hd)))), qd⟩)
 exact ⟨l, h1, h2, h3⟩
theorem getD_inV {α : Type} {l : List α} {k : Nat} {d : α} (h : k < l.length) : l.getD k d ∈ l := by
 rw [List.getD_eq_getElem?_getD, List.getElem?_eq_getElem h]
 exact List.getElem_mem h
theorem open_types (hS : ∀ b, S b) {fuel : Nat} {v : Value} {x : DataW H × List MemPlace} (hs : Sz Tryz.prog 48 x.1) (hf : DataW.trod enc Tryz.prog w base spare held fuel 48 [v] = some x) : ∃ l : List TypD, Rd S w (.sl 10 (dTyps l)) v ∧ smTs l := by
 obtain ⟨l, h1, h2, h3⟩ := open_rdL (S := S) hS typRow smT Tryz.underlying48 (k := 10) (by kernel_rfl) (by decide) hs (by kernel_rfl) hf (fun cs y m hl ht hsy _ => by
  obtain ⟨n', _, hfd⟩ := trod_fields Tryz.underlying73 hsy ht
  match cs, hl with
  | [u0, u1, u2, u3, u4, u5, u6, u7, u8, u9], _ =>
   obtain ⟨y0, t0, _⟩ := hfd 0 _ rfl
   obtain ⟨y1, t1, _⟩ := hfd 1 _ rfl
   obtain ⟨y2, t2, _⟩ := hfd 2 _ rfl
   obtain ⟨y3, t3, _⟩ := hfd 3 _ rfl
   obtain ⟨y4, t4, _⟩ := hfd 4 _ rfl
   obtain ⟨y5, t5, s5⟩ := hfd 5 _ rfl
   obtain ⟨y6, t6, s6⟩ := hfd 6 _ rfl
   obtain ⟨y7, t7, _⟩ := hfd 7 _ rfl
   obtain ⟨y8, t8, _⟩ := hfd 8 _ rfl
   obtain ⟨y9, t9, _⟩ := hfd 9 _ rfl
   simp [cellsI, cellsJ, cellsB, cellsS, cellsL2, cellsL3] at t0 t1 t2 t3 t4 t5 t6 t7 t8 t9
   obtain ⟨v0, rfl, _⟩ := trod_i64 Tryz.underlying3 t0
   obtain ⟨v1, rfl⟩ := trod_str' Tryz.underlying9 t1
   obtain ⟨v2, rfl, _⟩ := trod_i64 Tryz.underlying2 t2
   obtain ⟨v3, rfl, _⟩ := trod_i64 Tryz.underlying2 t3
   obtain ⟨v4, rfl, _⟩ := trod_i64 Tryz.underlying3 t4
   obtain ⟨l5, r5, q5⟩ := open_syms hS s5 t5
   obtain ⟨l6, r6, q6, b6⟩ := open_mems hS s6 t6
   obtain ⟨v7, rfl, _⟩ := trod_i64 Tryz.underlying3 t7
   obtain ⟨v8, rfl, _⟩ := trod_i64 Tryz.underlying3 t8
   obtain ⟨v9, rfl⟩ := trod_bool' Tryz.underlying4 t9
   exact ⟨⟨v0, v1, v2, v3, v4, l5, l6, v7, v8, v9⟩, .cons (.v rfl) (.cons (.v rfl) (.cons (.v rfl) (.cons (.v rfl) (.cons (.v rfl) (.cons r5 (.cons r6 (.cons (.v rfl) (.cons (.v rfl) (.one (.v rfl)))))))))), ⟨q5, q6⟩, fun k hk => b6 _ (getD_inV hk)⟩)
 exact ⟨l, h1, h2, fun i hi => h3 _ (getD_inV hi)⟩
theorem open_sess (hS : ∀ b, S b) {fuel : Nat} {v : Value} {x : DataW H × List MemPlace} (hs : Sz Tryz.prog 52 x.1) (hf : DataW.trod enc Tryz.prog w base spare held fuel 52 [v] = some x) : ∃ l : List SesD, Rd S w (.sl 5 (dSess l)) v ∧ l.length ≤ 5900000000000 ∧ ∀ x ∈ l, smS x := by
 obtain ⟨l, h1, h2, h3⟩ := open_rdL (S := S) hS sesRow smS Tryz.underlying52 (k := 5) (by kernel_rfl) (by decide) hs (by kernel_rfl) hf (fun cs y m hl ht hsy _ => by
  obtain ⟨n', _, hfd⟩ := trod_fields Tryz.underlying94 hsy ht
  match cs, hl with
  | [u0, u1, u2, u3, u4], _ =>
   obtain ⟨y0, t0, _⟩ := hfd 0 _ rfl
   obtain ⟨y1, t1, s1⟩ := hfd 1 _ rfl
   obtain ⟨y2, t2, s2⟩ := hfd 2 _ rfl
   simp [cellsI, cellsS, cellsL6, cellsA] at t0 t1 t2
   obtain ⟨n2, _, hfe⟩ := trod_fields Tryz.underlying92 s2 t2
   obtain ⟨y3, t3, _⟩ := hfe 0 _ rfl
   obtain ⟨y4, t4, _⟩ := hfe 1 _ rfl
   obtain ⟨y5, t5, s5⟩ := hfe 2 _ rfl
   simp [cellsI, cellsL7] at t3 t4 t5
   obtain ⟨v0, rfl⟩ := trod_str' Tryz.underlying9 t0
   obtain ⟨l1, r1, q1⟩ := open_msgs hS s1 t1
   obtain ⟨v3, rfl, _⟩ := trod_i64 Tryz.underlying3 t3
   obtain ⟨v4, rfl, _⟩ := trod_i64 Tryz.underlying3 t4
   obtain ⟨l5, r5, q5⟩ := open_edges hS s5 t5
   exact ⟨⟨v0, l1, ⟨v3, v4, l5⟩⟩, .cons (.v rfl) (.cons r1 (.cons (.v rfl) (.cons (.v rfl) (.one r5)))), q1, q5⟩)
 exact ⟨l, h1, h2, h3⟩
end
def ρ0 : Key → Hd := fun _ => ⟨none, none, 0, 0, 0⟩
def S0 : Nat → Prop := Im (fun _ => False) ρ0 (lk ([] : List (Key × Box)))
theorem S0_all (b : Nat) : S0 b := ⟨fun h => h, fun q box hq => by cases hq⟩
def valArgs (xs : List (Bool × List C)) : List Arg := xs.map fun x => .val x.1 x.2
theorem argTm_val : ∀ (xs : List (Bool × List C)) (i t : Nat) (av : AV), lk (argTm i (valArgs xs)) t = some av → i ≤ t ∧ ∃ x, xs[t - i]? = some x ∧ av = .one x.1 x.2
 | [], i, t, av, h => by cases h
 | x :: xs, i, t, av, h => by
  have h' : (if t = i then some (AV.one x.1 x.2) else lk (argTm (i + 1) (valArgs xs)) t) = some av := h
  split at h'
  ·rename_i e
   subst e
   cases h'
   exact ⟨Nat.le_refl _, x, by simp, rfl⟩
  ·obtain ⟨h1, y, h2, h3⟩ := argTm_val xs (i + 1) t av h'
   refine ⟨by omega, y, ?_, h3⟩
   rw [show t - i = (t - (i + 1)) + 1 by omega, List.getElem?_cons_succ]
   exact h2
theorem argBx_val : ∀ (xs : List (Bool × List C)) (i : Nat), argBx i (valArgs xs) = []
 | [], _ => rfl
 | x :: xs, i => argBx_val xs (i + 1)
theorem calls_of_fn {P : Program} {f : FuncId} {xs : List (Bool × List C)} {vals : List Value} {w : World} (h : FnSound P f (valArgs xs) [] { vals := [(false, [.d (.v (.bool true))])] }) (hl : vals.length = xs.length)
    (hv : ∀ (i : Nat) (x : Bool × List C), xs[i]? = some x → AVRel (CRel S0 ρ0 (fun q => q.2 < 1) w) (.one x.1 x.2) (vals.getD i undef)) : Calls P f vals.toArray w fun e w' => e = .returned (.bool true) ∧ Below w.heap.size w w' := by
 have := h (fun _ => False) (fun _ => False) ρ0 ρ0 w vals (by simp [valArgs, hl])
  ⟨by simp, rfl, (fun t av ht => by
   obtain ⟨_, x, h2, rfl⟩ := argTm_val xs 0 t av ht
   have h3 : xs[t]? = some x := by simpa using h2
   refine ⟨by rw [hl]; exact (List.getElem?_eq_some_iff.1 h3).1, ?_⟩
   have e1 : (⟨vals.toArray, []⟩ : Act).tmps.getD t undef = vals.getD t undef := by simp [Array.getD_eq_getD_getElem?]
   rw [e1, argBx_val]
   exact hv t x h3), (fun q box hq => by rw [argBx_val] at hq; cases hq), (fun q1 b1 q2 b2 b e1 => by rw [argBx_val] at e1; cases e1), (fun q box b hq => by rw [argBx_val] at hq; cases hq), Keep.refl _ _, ⟨fun b hb => False.elim hb, Gl.none _ _⟩, (fun q hq => ⟨by omega, rfl⟩)⟩
 refine this.mono ?_
 rintro e w' ⟨v, ρ', rfl, hR⟩
 have h1 := (hR.tm 0 _ rfl).2
 have h2 : v = .bool true := conV_sound (av := .one false [.d (.v (.bool true))]) (x := .bool true) rfl h1
 exact ⟨by rw [h2], hR.fr.below (Nat.le_refl _) (fun b _ h => h)⟩
end Go.Proofs.YtjpdemikmdfonaaGreatDoor

