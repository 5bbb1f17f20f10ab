/-
  Data without addresses, and how it reads in memory: the words of the abstract machine (see NOTES.md, 'the abstract machine').
-/
import Derived.Test.YtnaknldbmapolaaGreatDoorOwn
namespace Go.Proofs.YtnaknldbmapolaaGreatDoor
open Go Go.RowKit
set_option linter.unusedSimpArgs false
set_option linter.unusedVariables false
/-- Data: a scalar of one cell, or a slice that is only read: its elements' cells, row by row. -/
inductive D where
  | v (x : Value)
  | sl (sz : Nat) (rows : List (List D))
instance : Inhabited D := ⟨.v undef⟩
def scal : Value → Bool
  | .bool _ => true
  | .int .. => true
  | .float .. => true
  | .string _ => true
  | .nilFunc => true
  | .nilIface => true
  | .pointer none => true
  | .func (.func _) a b => a.isEmpty && b.isEmpty
  | _ => false
/-- Memory goes on from w to w', the blocks of S as they were. -/
structure Keep (S : Nat → Prop) (w w' : World) : Prop where
  os : w'.os = w.os
  tape : w'.tape = w.tape
  output : w'.output = w.output
  size : w.heap.size ≤ w'.heap.size
  block : ∀ k, k < w.heap.size → S k → w'.heap[k]? = w.heap[k]?
section
variable {S S' : Nat → Prop} {w w' w'' : World}
theorem Keep.refl (S : Nat → Prop) (w : World) : Keep S w w := ⟨rfl, rfl, rfl, Nat.le_refl _, fun _ _ _ => rfl⟩
theorem Keep.trans (h : Keep S w w') (k : Keep S w' w'') : Keep S w w'' :=
  ⟨k.os.trans h.os, k.tape.trans h.tape, k.output.trans h.output, Nat.le_trans h.size k.size, fun b hb hs => (k.block b (Nat.lt_of_lt_of_le hb h.size) hs).trans (h.block b hb hs)⟩
theorem Keep.mono (h : Keep S w w') (hs : ∀ b, b < w.heap.size → S' b → S b) : Keep S' w w' := ⟨h.os, h.tape, h.output, h.size, fun b hb h' => h.block b hb (hs b hb h')⟩
theorem Keep.alloc (S : Nat → Prop) (w : World) (o : Obj) : Keep S w (w.alloc o) := ⟨rfl, rfl, rfl, by simp, fun b hb _ => Below.heap_alloc w o b hb⟩
theorem Keep.drew (S : Nat → Prop) (w : World) : Keep S w w.drew := ⟨rfl, rfl, rfl, Nat.le_refl _, fun _ _ _ => rfl⟩
theorem Keep.setCell (w : World) {b o : Nat} (h : ¬ S b) (u : Value) : Keep S w (w.setCell ⟨b, o, none⟩ u) :=
  ⟨rfl, rfl, rfl, by simp [World.setCell], fun k _ hs => Below.heap_setCell w ⟨b, o, none⟩ u k (fun e => h (by rw [← show k = b from e]; exact hs))⟩
theorem Keep.of_below {B : Nat} (h : Below B w w') (hs : ∀ b, b < w.heap.size → S b → b < B) : Keep S w w' := ⟨h.os, h.tape, h.output, h.size, fun b hb h' => h.block b (hs b hb h')⟩
theorem Keep.below (h : Keep S w w') {B : Nat} (hB : B ≤ w.heap.size) (hs : ∀ b, b < B → S b) : Below B w w' := ⟨h.os, h.tape, h.output, h.size, fun b hb => h.block b (Nat.lt_of_lt_of_le hb hB) (hs b hb)⟩
theorem Keep.cell (h : Keep S w w') {b o : Nat} {u : Value} (hs : S b) (hc : w.cell? ⟨b, o, none⟩ = some u) : w'.cell? ⟨b, o, none⟩ = some u := by
  have hb : b < w.heap.size := by
    rcases Nat.lt_or_ge b w.heap.size with hl | hg
    · exact hl
    · simp [World.cell?, Array.getElem?_eq_none hg] at hc
  exact (World.cell?_of_block (w := w) (h.block b hb hs)).trans hc
end
/-- A value reads as data, all of whose memory lies in S. -/
inductive Rd (S : Nat → Prop) (w : World) : D → Value → Prop
  | v {x : Value} (h : scal x = true) : Rd S w (.v x) x
  | sl {sz : Nat} {rows : List (List D)} {A : Option Addr} {c b o : Nat} {cv : Nat → Nat → Value} (hc : rows.length ≤ c) (hb : rows.length ≤ 4611686018427387904)
      (hA : rows ≠ [] → A = some ⟨b, o, none⟩ ∧ b < w.heap.size ∧ S b)
      (hl : ∀ (i : Nat) (row : List D), rows[i]? = some row → row.length = sz)
      (hcell : ∀ (i : Nat) (row : List D) (j : Nat) (d : D), rows[i]? = some row → row[j]? = some d → w.cell? ⟨b, o + (i * sz + j), none⟩ = some (cv i j))
      (hr : ∀ (i : Nat) (row : List D) (j : Nat) (d : D), rows[i]? = some row → row[j]? = some d → Rd S w d (cv i j)) : Rd S w (.sl sz rows) (.slice A rows.length c)
section
variable {S S' : Nat → Prop} {w w' w'' : World}
theorem ne_nil_of_get {α : Type} {l : List α} {i : Nat} {x : α} (h : l[i]? = some x) : l ≠ [] := by rintro rfl; simp at h
theorem Rd.keep {d : D} {v : Value} (h : Rd S w d v) (hk : Keep S w w') : Rd S w' d v := by
  induction h with
  | v h => exact .v h
  | sl hc hb hA hl hcell hr ih =>
    exact .sl hc hb (fun hne => ⟨(hA hne).1, Nat.lt_of_lt_of_le (hA hne).2.1 hk.size, (hA hne).2.2⟩) hl
      (fun i row j d h1 h2 => hk.cell (hA (ne_nil_of_get h1)).2.2 (hcell i row j d h1 h2)) ih
theorem Rd.mono {d : D} {v : Value} (h : Rd S w d v) (hs : ∀ b, b < w.heap.size → S b → S' b) : Rd S' w d v := by
  induction h with
  | v h => exact .v h
  | sl hc hb hA hl hcell hr ih => exact .sl hc hb (fun hne => ⟨(hA hne).1, (hA hne).2.1, hs _ (hA hne).2.1 (hA hne).2.2⟩) hl hcell ih
theorem scal_one {x : Value} (h : scal x = true) : x.oneCell' = true := by cases x <;> first | rfl | simp [scal] at h
theorem Rd.one {d : D} {v : Value} (h : Rd S w d v) : v.oneCell' = true := by
  cases h with
  | v h => exact scal_one h
  | sl => rfl
theorem Rd.val {x : Value} {v : Value} (h : Rd S w (.v x) v) : v = x ∧ scal x = true := by cases h with | v h => exact ⟨rfl, h⟩
end
abbrev Key := Nat × Nat
/-- What a closure has captured: data, a pointer into an own variable, into data. -/
inductive Cap where
  | d (d : D)
  | ptr (q : Key) (off : Nat)
  | rptr (row : List D) (off : Nat)
/-- What one cell holds: data, an empty slice without room, an own slice, a pointer into an own variable, into an own slice's element, into data; a slice that covers an own block; an own map; a closure. -/
inductive C where
  | d (d : D)
  | zero
  | own (q : Key)
  | ptr (q : Key) (off : Nat)
  | eptr (q : Key) (i off : Nat)
  | rptr (row : List D) (off : Nat)
  | arr (q : Key) (n sz : Nat)
  | mp (q : Key)
  | fn (g : FuncId) (caps : List Cap)
  | dead
instance : Inhabited C := ⟨.dead⟩
/-- A value: of one cell (false) or a struct or array (true); a tuple; the mark of an operation that was not carried out; anything. -/
inductive AV where
  | one (b : Bool) (cs : List C)
  | tup (xs : List (Bool × List C))
  | un
  | dead
instance : Inhabited AV := ⟨.dead⟩
/-- Own memory: a variable, an own slice, a slice that is not written any more. -/
inductive Box where
  | st (ty : TypeId) (cs : List C)
  | sl (ty : TypeId) (sz : Nat) (rows : List (List D))
  | fz (sz : Nat) (rows : List (List D))
  | mp (es : Array MapEntry) (clock : Nat)
def Box.live : Box → Bool
  | .fz .. => false
  | _ => true
/-- Where a key's memory lies. -/
structure Hd where
  A : Option Addr
  g : Option Nat
  n : Nat
  cap : Nat
  sz : Nat
def Im (V : Nat → Prop) (ρ : Key → Hd) (lb : Key → Option Box) (b : Nat) : Prop := ¬ V b ∧ ∀ q box, lb q = some box → box.live = true → (ρ q).g ≠ some b
def RPtr (S : Nat → Prop) (w : World) (row : List D) (o : Nat) (v : Value) : Prop := ∃ (b o' : Nat) (cv : Nat → Value), v = .pointer (some ⟨b, o' + o, none⟩) ∧ b < w.heap.size ∧ S b ∧ ∀ (j : Nat) (d : D), row[j]? = some d → w.cell? ⟨b, o' + j, none⟩ = some (cv j) ∧ Rd S w d (cv j)
def CapRel (S : Nat → Prop) (ρ : Key → Hd) (ok : Key → Prop) (w : World) : Cap → Value → Prop
  | .d x, v => Rd S w x v
  | .ptr q o, v => ok q ∧ ∃ b, (ρ q).g = some b ∧ v = .pointer (some ⟨b, o, none⟩)
  | .rptr row o, v => RPtr S w row o v
inductive Caps (R : Cap → Value → Prop) : List Cap → List Value → Prop
  | nil : Caps R [] []
  | cons {c : Cap} {v : Value} {cs : List Cap} {vs : List Value} (h : R c v) (t : Caps R cs vs) : Caps R (c :: cs) (v :: vs)
theorem Caps.imp {R R' : Cap → Value → Prop} {cs : List Cap} {vs : List Value} (h : Caps R cs vs) (hi : ∀ c v, c ∈ cs → R c v → R' c v) : Caps R' cs vs := by
  induction h with
  | nil => exact .nil
  | cons h t ih => exact .cons (hi _ _ (by simp) h) (ih fun c v hc => hi c v (by simp [hc]))
theorem Caps.length {R : Cap → Value → Prop} {cs : List Cap} {vs : List Value} (h : Caps R cs vs) : cs.length = vs.length := by induction h with | nil => rfl | cons _ _ ih => simp [ih]
def CRel (S : Nat → Prop) (ρ : Key → Hd) (ok : Key → Prop) (w : World) : C → Value → Prop
  | .d d, v => Rd S w d v
  | .zero, v => ∃ A, v = .slice A 0 0
  | .own q, v => ok q ∧ v = .slice (ρ q).A (ρ q).n (ρ q).cap
  | .ptr q o, v => ok q ∧ ∃ b, (ρ q).g = some b ∧ v = .pointer (some ⟨b, o, none⟩)
  | .eptr q i o, v => ok q ∧ ∃ b, (ρ q).g = some b ∧ v = .pointer (some ⟨b, i * (ρ q).sz + o, none⟩)
  | .rptr row o, v => ∃ (b o' : Nat) (cv : Nat → Value), v = .pointer (some ⟨b, o' + o, none⟩) ∧ b < w.heap.size ∧ S b ∧ ∀ (j : Nat) (d : D), row[j]? = some d → w.cell? ⟨b, o' + j, none⟩ = some (cv j) ∧ Rd S w d (cv j)
  | .arr q n z, v => ok q ∧ ∃ b, (ρ q).g = some b ∧ v = .slice (some ⟨b, 0, none⟩) n n
  | .mp q, v => ok q ∧ ∃ b, (ρ q).g = some b ∧ v = .map (some b)
  | .fn g caps, v => ∃ vs, v = .func (.func g) #[] vs.toArray ∧ Caps (CapRel S ρ ok w) caps vs
  | .dead, v => v.oneCell' = true
inductive All2 (R : C → Value → Prop) : List C → List Value → Prop
  | nil : All2 R [] []
  | cons {c : C} {v : Value} {cs : List C} {vs : List Value} (h : R c v) (t : All2 R cs vs) : All2 R (c :: cs) (v :: vs)
section
variable {R R' : C → Value → Prop} {cs cs' : List C} {vs vs' : List Value}
theorem All2.length (h : All2 R cs vs) : cs.length = vs.length := by induction h with | nil => rfl | cons _ _ ih => simp [ih]
theorem All2.imp (h : All2 R cs vs) (hi : ∀ c v, c ∈ cs → R c v → R' c v) : All2 R' cs vs := by
  induction h with
  | nil => exact .nil
  | cons h t ih => exact .cons (hi _ _ (by simp) h) (ih fun c v hc => hi c v (by simp [hc]))
theorem All2.get (h : All2 R cs vs) : ∀ {i : Nat} {c : C}, cs[i]? = some c → ∃ v, vs[i]? = some v ∧ R c v := by
  induction h with
  | nil => intro i c hc; simp at hc
  | cons h t ih =>
    intro i c hc
    cases i with
    | zero => simp at hc; subst hc; exact ⟨_, by simp, h⟩
    | succ i => simpa using ih (by simpa using hc)
theorem All2.drop (h : All2 R cs vs) : ∀ n, All2 R (cs.drop n) (vs.drop n) := by
  induction h with
  | nil => intro n; simpa using All2.nil
  | cons h t ih =>
    intro n
    cases n with
    | zero => simpa using All2.cons h t
    | succ n => simpa using ih n
theorem All2.take (h : All2 R cs vs) : ∀ n, All2 R (cs.take n) (vs.take n) := by
  induction h with
  | nil => intro n; simpa using All2.nil
  | cons h t ih =>
    intro n
    cases n with
    | zero => simpa using All2.nil
    | succ n => simpa using All2.cons h (ih n)
theorem All2.append (h : All2 R cs vs) (h' : All2 R cs' vs') : All2 R (cs ++ cs') (vs ++ vs') := by
  induction h with
  | nil => exact h'
  | cons h t ih => exact .cons h ih
end
/-- A value of one cell, or an aggregate of cells. -/
def One (R : C → Value → Prop) (b : Bool) (cs : List C) (v : Value) : Prop := ∃ vs, All2 R cs vs ∧ (if b = true then v = .agg vs.toArray else vs = [v])
inductive Alls (R : C → Value → Prop) : List (Bool × List C) → List Value → Prop
  | nil : Alls R [] []
  | cons {b : Bool} {cs : List C} {v : Value} {xs : List (Bool × List C)} {vs : List Value} (h : One R b cs v) (t : Alls R xs vs) : Alls R ((b, cs) :: xs) (v :: vs)
def AVRel (R : C → Value → Prop) : AV → Value → Prop
  | .one b cs, v => One R b cs v
  | .tup xs, v => ∃ vs, v = .tuple vs.toArray ∧ Alls R xs vs
  | .un, v => v = undef
  | .dead, _ => True
section
variable {R R' : C → Value → Prop}
theorem One.imp {b : Bool} {cs : List C} {v : Value} (h : One R b cs v) (hi : ∀ c v, R c v → R' c v) : One R' b cs v := let ⟨vs, h1, h2⟩ := h; ⟨vs, h1.imp fun c v _ => hi c v, h2⟩
theorem Alls.imp {xs : List (Bool × List C)} {vs : List Value} (h : Alls R xs vs) (hi : ∀ c v, R c v → R' c v) : Alls R' xs vs := by
  induction h with
  | nil => exact .nil
  | cons h t ih => exact .cons (h.imp hi) ih
theorem AVRel.imp {av : AV} {v : Value} (h : AVRel R av v) (hi : ∀ c v, R c v → R' c v) : AVRel R' av v := by
  cases av with
  | one b cs => exact One.imp h hi
  | tup xs => obtain ⟨vs, h1, h2⟩ := h; exact ⟨vs, h1, h2.imp hi⟩
  | un => exact h
  | dead => trivial
theorem Alls.get {xs : List (Bool × List C)} {vs : List Value} (h : Alls R xs vs) : ∀ {i : Nat} {b : Bool} {cs : List C}, xs[i]? = some (b, cs) → ∃ v, vs[i]? = some v ∧ One R b cs v := by
  induction h with
  | nil => intro i b cs hc; simp at hc
  | cons h t ih =>
    intro i b cs hc
    cases i with
    | zero => simp at hc; obtain ⟨rfl, rfl⟩ := hc; exact ⟨_, by simp, h⟩
    | succ i => simpa using ih (by simpa using hc)
end
section
variable {S S' : Nat → Prop} {ρ ρ' : Key → Hd} {ok ok' : Key → Prop} {w w' : World}
theorem CRel.one {c : C} {v : Value} (h : CRel S ρ ok w c v) : v.oneCell' = true := by
  cases c with
  | d d => exact Rd.one h
  | zero => obtain ⟨A, rfl⟩ := h; rfl
  | own q => obtain ⟨_, rfl⟩ := h; rfl
  | ptr q o => obtain ⟨_, b, _, rfl⟩ := h; rfl
  | eptr q i o => obtain ⟨_, b, _, rfl⟩ := h; rfl
  | rptr row o => obtain ⟨b, o', cv, rfl, _⟩ := h; rfl
  | arr q n z => obtain ⟨_, b, _, rfl⟩ := h; rfl
  | mp q => obtain ⟨_, b, _, rfl⟩ := h; rfl
  | fn g caps => obtain ⟨vs, rfl, _⟩ := h; rfl
  | dead => exact h
theorem RPtr.keep {row : List D} {o : Nat} {v : Value} (h : RPtr S w row o v) (hk : Keep S' w w') (hs : ∀ b, b < w.heap.size → S b → S' b) : RPtr S' w' row o v := by
  obtain ⟨b, o', cv, h1, h0, h2, h3⟩ := h
  exact ⟨b, o', cv, h1, Nat.lt_of_lt_of_le h0 hk.size, hs b h0 h2, fun j d hj => ⟨hk.cell (hs b h0 h2) (h3 j d hj).1, ((h3 j d hj).2.mono hs).keep hk⟩⟩
theorem CapRel.keep {c : Cap} {v : Value} (h : CapRel S ρ ok w c v) (hk : Keep S' w w') (hs : ∀ b, b < w.heap.size → S b → S' b) (hρ : ∀ q : Key, ok q → ρ' q = ρ q) (hn : ∀ q : Key, ok q → ok' q) : CapRel S' ρ' ok' w' c v := by
  cases c with
  | d d => exact (Rd.mono h hs).keep hk
  | ptr q o => obtain ⟨h1, b, h2, h3⟩ := h; exact ⟨hn q h1, b, by rw [hρ q h1]; exact h2, h3⟩
  | rptr row o => exact RPtr.keep h hk hs
/-- What a cell holds goes on: memory that is data stays, old keys lie where they lay. -/
theorem CRel.keep {c : C} {v : Value} (h : CRel S ρ ok w c v) (hk : Keep S' w w') (hs : ∀ b, b < w.heap.size → S b → S' b) (hρ : ∀ q : Key, ok q → ρ' q = ρ q) (hn : ∀ q : Key, ok q → ok' q) : CRel S' ρ' ok' w' c v := by
  cases c with
  | d d => exact (Rd.mono h hs).keep hk
  | zero => exact h
  | own q => exact ⟨hn q h.1, by rw [hρ q h.1]; exact h.2⟩
  | ptr q o => obtain ⟨h1, b, h2, h3⟩ := h; exact ⟨hn q h1, b, by rw [hρ q h1]; exact h2, h3⟩
  | eptr q i o => obtain ⟨h1, b, h2, h3⟩ := h; exact ⟨hn q h1, b, by rw [hρ q h1]; exact h2, by rw [hρ q h1]; exact h3⟩
  | rptr row o =>
    obtain ⟨b, o', cv, h1, h0, h2, h3⟩ := h
    exact ⟨b, o', cv, h1, Nat.lt_of_lt_of_le h0 hk.size, hs b h0 h2, fun j d hj => ⟨hk.cell (hs b h0 h2) (h3 j d hj).1, ((h3 j d hj).2.mono hs).keep hk⟩⟩
  | arr q n z => obtain ⟨h1, b, h2, h3⟩ := h; exact ⟨hn q h1, b, by rw [hρ q h1]; exact h2, h3⟩
  | mp q => obtain ⟨h1, b, h2, h3⟩ := h; exact ⟨hn q h1, b, by rw [hρ q h1]; exact h2, h3⟩
  | fn g caps => obtain ⟨vs, h1, h2⟩ := h; exact ⟨vs, h1, h2.imp fun c v _ hc => hc.keep hk hs hρ hn⟩
  | dead => exact h
end
theorem mk_flat {α : Type} {sz : Nat} : ∀ {rows : List (List α)}, (∀ (i : Nat) (row : List α), rows[i]? = some row → row.length = sz) → ∀ {i j : Nat} {row : List α}, rows[i]? = some row → j < sz → rows.flatten[i * sz + j]? = row[j]?
  | [], _, i, j, row, h, _ => by simp at h
  | r :: rows, hl, i, j, row, h, hj => by
    have h0 := hl 0 r (by simp)
    cases i with
    | zero =>
      simp at h
      subst h
      rw [List.flatten_cons, Nat.zero_mul, Nat.zero_add, List.getElem?_append_left (by omega)]
    | succ i =>
      rw [List.flatten_cons, List.getElem?_append_right (by rw [h0, Nat.succ_mul]; omega), show (i + 1) * sz + j - r.length = i * sz + j by rw [h0, Nat.succ_mul]; omega]
      exact mk_flat (fun k row hk => hl (k + 1) row (by simpa using hk)) (by simpa using h) hj
theorem flat_len {α : Type} {sz : Nat} : ∀ {rows : List (List α)}, (∀ (i : Nat) (row : List α), rows[i]? = some row → row.length = sz) → rows.flatten.length = rows.length * sz
  | [], _ => by simp
  | r :: rows, hl => by
    rw [List.flatten_cons, List.length_append, hl 0 r (by simp), flat_len (fun k row hk => hl (k + 1) row (by simpa using hk)), List.length_cons, Nat.succ_mul]
    omega
/-- What stands in an own box. -/
def BoxRel (S : Nat → Prop) (ρ : Key → Hd) (ok : Key → Prop) (w : World) (q : Key) : Box → Prop
  | .st ty cs => ∃ b vs, (ρ q).g = some b ∧ Blk w b ty (List.toArray vs) ∧ All2 (CRel S ρ ok w) cs vs
  | .sl ty sz rows => (ρ q).n = rows.length ∧ (ρ q).sz = sz ∧ rows.length ≤ (ρ q).cap ∧ rows.length ≤ 4611686018427387904 ∧ (∀ (i : Nat) (row : List D), rows[i]? = some row → row.length = sz) ∧
      ((ρ q).g = none ∧ rows = [] ∧ (ρ q).cap = 0 ∨
       ∃ b vs sp, (ρ q).g = some b ∧ (ρ q).A = some ⟨b, 0, none⟩ ∧ Blk w b ty (vs ++ sp).toArray ∧ All2 (CRel S ρ ok w) (rows.flatten.map .d) vs ∧ sp.length = ((ρ q).cap - rows.length) * sz)
  | .fz sz rows => Rd S w (.sl sz rows) (.slice (ρ q).A (ρ q).n (ρ q).cap)
  | .mp es ck => ∃ b, (ρ q).g = some b ∧ w.heap[b]? = some (.map es ck)
/-- The machine's slots and memory are as the abstract state says. V: blocks that no data lies in; X: old blocks that may change; w0: the world at the function's start. -/
structure Rel (V X : Nat → Prop) (Z : Key → Option Nat) (w0 : World) (N : Nat) (ρ : Key → Hd) (ok : Key → Prop) (lt : Nat → Option AV) (lb : Key → Option Box) (a : Act) (w : World) : Prop where
  size : a.tmps.size = N
  defers : a.defers = []
  tm : ∀ t av, lt t = some av → t < N ∧ AVRel (CRel (Im V ρ lb) ρ ok w) av (a.tmps.getD t undef)
  bx : ∀ q box, lb q = some box → ok q ∧ BoxRel (Im V ρ lb) ρ ok w q box
  ap : ∀ q box q' box' b, lb q = some box → box.live = true → lb q' = some box' → box'.live = true → (ρ q).g = some b → (ρ q').g = some b → q = q'
  lo : ∀ q box b, lb q = some box → box.live = true → (ρ q).g = some b → b < w.heap.size ∧ (w0.heap.size ≤ b ∨ X b)
  fr : Keep (fun b => ¬ X b) w0 w
  va : ∀ b, V b → b < w0.heap.size ∧ ¬ X b
  zz : ∀ q : Key, q.2 = 0 → ok q ∧ (ρ q).g = Z q
section
variable {S S' : Nat → Prop} {ρ ρ' : Key → Hd} {ok ok' : Key → Prop} {w w' : World}
theorem BoxRel.keep {q : Key} {box : Box} (h : BoxRel S ρ ok w q box) (hk : Keep S' w w') (hs : ∀ b, b < w.heap.size → S b → S' b) (hρ : ∀ q : Key, ok q → ρ' q = ρ q) (hn : ∀ q : Key, ok q → ok' q)
    (hq : ok q) (hg : box.live = true → ∀ b, (ρ q).g = some b → w'.heap[b]? = w.heap[b]?) : BoxRel S' ρ' ok' w' q box := by
  cases box with
  | st ty cs =>
    obtain ⟨b, vs, h1, h2, h3⟩ := h
    exact ⟨b, vs, by rw [hρ q hq]; exact h1, (hg rfl b h1).trans h2, h3.imp fun c v _ hc => hc.keep hk hs hρ hn⟩
  | sl ty sz rows =>
    obtain ⟨h1, h2, h3, h4, h5, h6⟩ := h
    simp only [BoxRel]
    rw [hρ q hq]
    refine ⟨h1, h2, h3, h4, h5, h6.imp id ?_⟩
    rintro ⟨b, vs, sp, g1, g2, g3, g4, g5⟩
    exact ⟨b, vs, sp, g1, g2, (hg rfl b g1).trans g3, g4.imp fun c v _ hc => hc.keep hk hs hρ hn, g5⟩
  | fz sz rows =>
    simp only [BoxRel] at h ⊢
    rw [hρ q hq]
    exact (Rd.mono h hs).keep hk
  | mp es ck =>
    obtain ⟨b, h1, h2⟩ := h
    exact ⟨b, by rw [hρ q hq]; exact h1, (hg rfl b h1).trans h2⟩
end
end Go.Proofs.YtnaknldbmapolaaGreatDoor
