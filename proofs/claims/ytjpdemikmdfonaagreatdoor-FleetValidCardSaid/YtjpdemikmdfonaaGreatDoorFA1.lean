/- Rules of runs and contracts of functions, for the claims of one seat. -/
import Derived.BigQuiet
import Derived.Deep.Fields
import Derived.Deep.Slices
import Derived.Lib.SmallJoins
import Derived.OpenShut
import Derived.ProofKit
import Derived.RowKit3
import Derived.SizedLaws
import Derived.Test.YtjpdemikmdfonaaGreatDoorRows
import Derived.WalkKit
import Derived.WalkSpells
namespace Go.Proofs.YtjpdemikmdfonaaGreatDoor
open Go.RowKit
set_option linter.unusedSimpArgs false
set_option linter.unusedVariables false
def I64 (n : Int) : Prop := -9223372036854775808 ≤ n ∧ n ≤ 9223372036854775807
theorem hid {p : Prop} (h : p) : Hid p := h
theorem ext_refl (w : World) : Below w.heap.size w w := Below.refl _ _
theorem ext_alloc {a w : World} (h : Below a.heap.size a w) (o : Obj) : Below a.heap.size a (w.alloc o) := h.alloc h.size o
theorem ext_drew {a w : World} (h : Below a.heap.size a w) : Below a.heap.size a w.drew := h.drew
def Blk (w : World) (g : Nat) (t : TypeId) (cs : Array Value) : Prop := w.heap[g]? = some (.cells cs t (0, 0))
section
variable {w w' : World} {g : Nat} {t : TypeId} {cs : Array Value}
theorem Blk.lt (h : Blk w g t cs) : g < w.heap.size := by
 rcases Nat.lt_or_ge g w.heap.size with hl | hg
 ·exact hl
 ·unfold Blk at h; rw [Array.getElem?_eq_none hg] at h; cases h
theorem Blk.cell (h : Blk w g t cs) (i : Nat) : w.cell? ⟨g, i, none⟩ = cs[i]? := by
 unfold Blk at h
 simp [World.cell?, h]
theorem Blk.frozen (h : Blk w g t cs) (i : Nat) : w.frozen? ⟨g, i, none⟩ = false := by
 unfold Blk at h
 simp [World.frozen?, h]
theorem Blk.new (w : World) (t : TypeId) (cs : Array Value) : Blk (w.alloc (.cells cs t)) w.heap.size t cs := by
 unfold Blk
 show (w.heap.push _)[w.heap.size]? = _
 simp
theorem Blk.ext (h : Blk w g t cs) (hb : Below w.heap.size w w') : Blk w' g t cs := (hb.block g h.lt).trans h
theorem Blk.alloc (h : Blk w g t cs) (o : Obj) : Blk (w.alloc o) g t cs := (Below.heap_alloc w o g h.lt).trans h
theorem Blk.drew (h : Blk w g t cs) : Blk w.drew g t cs := h
theorem Blk.put (h : Blk w g t cs) (i : Nat) (u : Value) : Blk (w.setCell ⟨g, i, none⟩ u) g t (cs.setIfInBounds i u) := by
 unfold Blk at h ⊢
 simp [World.setCell, Array.getElem?_modify, h]
end
end Go.Proofs.YtjpdemikmdfonaaGreatDoor
namespace Go.Proofs.YtjpdemikmdfonaaGreatDoor
open Go.ChangeShapes Go.WideShapes Go.ChangeAt Go.RowKit Go.Joins Go.Deep
set_option linter.unusedSimpArgs false
set_option linter.unusedVariables false
theorem own : ownKnob Tryz.prog.godebug = none := by kernel_rfl
theorem laid : laidOutB Tryz.prog = true := by kernel_rfl
section
variable {H : Type} {enc : TypeId × Value → H} {P : Program}
theorem trodAll_stays (hl : laidOutB P = true) {W W' : World} (hb : Below W.heap.size W W') : ∀ (ts : List TypeId) (vs : List Value) (ds : List (DataW H)) (ps : List MemPlace),
    ts.all (fun t => P.readableRec t && decide (t < P.types.size)) = true → DataW.TrodAll enc P W 0 (fun _ => true) true ts vs ds ps → (∀ x ∈ ps, x.block < W.heap.size) →
    DataW.TrodAll enc P W' 0 (fun b => decide (b < W.heap.size)) true ts vs ds ps
 | [], [], [], ps, _, h, _ => h
 | t :: ts, v :: vs, d :: ds, ps, ha, h, hlt => by
  simp only [List.all_cons, Bool.and_eq_true, decide_eq_true_eq] at ha
  obtain ⟨p, q, h1, h2, rfl⟩ := h
  exact ⟨p, q, Below.trod hl ha.1.1 ha.1.2 h1 hb (fun x hx => hlt x (by simp [hx])), trodAll_stays hl hb ts vs ds q ha.2 h2 (fun x hx => hlt x (by simp [hx])), rfl⟩
 | [], _ :: _, _, _, _, h, _ => h.elim
 | [], [], _ :: _, _, _, h, _ => h.elim
 | _ :: _, [], _, _, _, h, _ => h.elim
 | _ :: _, _ :: _, [], _, _, h, _ => h.elim
theorem law_post {f : Func} {s : ChangeSpec} {apart fresh : Bool} {W W' : World} {args : Array Value} {ds gs : List (DataW H)} {before : List MemPlace} {tb : TypeId}
    (hs : s.vars = []) (hl : laidOutB P = true) (hts : f.params.toList.all (fun t => P.readableRec t && decide (t < P.types.size)) = true) (hr : f.resultTypes = #[tb]) (htb : P.underlying tb = some .bool)
    (hW : DataW.Whole enc P f.params.toList s.vars apart W args.toList ds gs before) (hfn : s.fn H ds = { results := [.lit (.bool true)], args := ds }) (hb : Below W.heap.size W W') :
    s.post enc P f apart fresh false false W args (.bool true) W' := by
 have hlt : ∀ p ∈ before, p.block < W.heap.size := fun p hp => hW.lt p hp
 have hW' := hW
 obtain ⟨p, q, hA, hV, rfl, hz, hn⟩ := hW
 rw [hs] at hV
 obtain ⟨rfl, rfl⟩ := trodVars_none hV
 simp only [List.append_nil] at hlt
 refine ⟨ds, [], p ++ [], [], p, [], hW', ?_, ?_, ?_, World.keptBut_mono (fun x hx => ⟨hx, ?_⟩) (hb.frame (· ∈ p ++ [])), fun h => by cases h⟩
 ·simp only [List.append_nil, hfn, hr]
  exact trodAll_mk1 (shut_bool htb true)
 ·simp only [List.append_nil, hfn]
  exact trodAll_stays hl hb _ _ _ _ hts hA hlt
 ·simp only [List.append_nil, hfn, hs]
  rfl
 ·simp at hx
  exact Or.inr (Or.inl hx)
end
theorem i64_wf {n : Int} (h : (Lit.int .i64 n).wf = true) : I64 n := by
 simp [Lit.wf, IntKind.min, IntKind.max, IntKind.signed, IntKind.bits] at h
 exact ⟨by omega, by omega⟩
section
variable {H : Type} {enc : TypeId × Value → H} {P : Program} {w : World} {base : Nat} {spare : Nat → Bool} {held : Bool}
theorem trod_i64 {n : Nat} {t : TypeId} {v : Value} {y : DataW H × List MemPlace} (ht : P.underlying t = some (.int .i64)) (h : DataW.trod enc P w base spare held n t [v] = some y) : ∃ z, v = .int .i64 z ∧ I64 z := by
 obtain ⟨z, h1, _, h3⟩ := DataW.trod_int ht h
 simp at h1
 exact ⟨z, h1, i64_wf h3⟩
end
end Go.Proofs.YtjpdemikmdfonaaGreatDoor
namespace Go.Proofs.YtjpdemikmdfonaaGreatDoor
open Go.ChangeShapes Go.WideShapes Go.ChangeAt Go.RowKit Go.Joins Go.Deep
set_option linter.unusedSimpArgs false
set_option linter.unusedVariables false
theorem addr_add_none (b off n : Nat) : Addr.add ⟨b, off, none⟩ n = ⟨b, off + n, none⟩ := by
 unfold Addr.add; split
 ·subst_vars; rfl
 ·rfl
theorem addr_of_cell {w : World} {ad : Addr} {u : Value} (h : w.cell? ad = some u) : ∃ b off, ad = ⟨b, off, none⟩ ∧ b < w.heap.size := by
 obtain ⟨b, off, spot⟩ := ad
 unfold World.cell? at h
 dsimp only at h
 have hb : b < w.heap.size := by
  rcases Nat.lt_or_ge b w.heap.size with hl | hg
  ·exact hl
  ·rw [Array.getElem?_eq_none hg] at h; cases h
 cases spot with
 | none => exact ⟨b, off, rfl, hb⟩
 | some x => split at h <;> simp at h
section
variable {H : Type} {enc : TypeId × Value → H} {P : Program} {w : World} {base : Nat} {spare : Nat → Bool} {held : Bool}
end
end Go.Proofs.YtjpdemikmdfonaaGreatDoor
namespace Go.Proofs.YtjpdemikmdfonaaGreatDoor
open Go.RowKit
set_option linter.unusedSimpArgs false
set_option linter.unusedVariables false
def Cells (w : World) (A : Option Addr) (xs : List Value) : Prop :=
 ∀ j (h : j < xs.length), ∃ b off, A = some ⟨b, off, none⟩ ∧ b < w.heap.size ∧ w.cell? ⟨b, off + j, none⟩ = some xs[j]
def ints (xs : List Int) : List Value := xs.map (Value.int .i64)
def sets (xs : List Int) : List Value := xs.map (Value.int .u8)
def bools (xs : List Bool) : List Value := xs.map Value.bool
@[simp] theorem ints_length (xs : List Int) : (ints xs).length = xs.length := by simp [ints]
@[simp] theorem sets_length (xs : List Int) : (sets xs).length = xs.length := by simp [sets]
@[simp] theorem bools_length (xs : List Bool) : (bools xs).length = xs.length := by simp [bools]
def Mat (w : World) (A : Option Addr) (m : List (List Bool)) : Prop :=
 ∀ i (h : i < m.length), ∃ b off rA rc, A = some ⟨b, off, none⟩ ∧ b < w.heap.size ∧ w.cell? ⟨b, off + i, none⟩ = some (.slice rA (m[i]).length rc) ∧ Cells w rA (bools m[i]) ∧ (m[i]).length ≤ 4611686018427387904
structure Tab where
 kind : Int
 frm : Int
 tto : Int
 aware : Bool
 ok : List (List Bool)
 rw : List (List Bool)
structure Prob where
 vs : List Int
 now : List Int
 tgt : List Int
 tabs : List Tab
def Tabs (w : World) (A : Option Addr) (ts : List Tab) : Prop :=
 ∀ i (h : i < ts.length), ∃ b off okA okc rwA rwc, A = some ⟨b, off, none⟩ ∧ b < w.heap.size ∧ w.cell? ⟨b, off + i * 6, none⟩ = some (.int .i64 (ts[i]).kind) ∧ w.cell? ⟨b, off + i * 6 + 1, none⟩ = some (.int .i64 (ts[i]).frm) ∧
  w.cell? ⟨b, off + i * 6 + 2, none⟩ = some (.int .i64 (ts[i]).tto) ∧ w.cell? ⟨b, off + i * 6 + 3, none⟩ = some (.bool (ts[i]).aware) ∧ w.cell? ⟨b, off + i * 6 + 4, none⟩ = some (.slice okA (ts[i]).ok.length okc) ∧
  w.cell? ⟨b, off + i * 6 + 5, none⟩ = some (.slice rwA (ts[i]).rw.length rwc) ∧ Mat w okA (ts[i]).ok ∧ Mat w rwA (ts[i]).rw ∧ (ts[i]).ok.length ≤ 4611686018427387904 ∧ (ts[i]).rw.length ≤ 4611686018427387904
def ProbAt (w : World) (v : Value) (p : Prob) : Prop :=
 ∃ vA vc nA nc gA gc tA tc, v = .agg #[.slice vA p.vs.length vc, .slice nA p.now.length nc, .slice gA p.tgt.length gc, .slice tA p.tabs.length tc] ∧ Cells w vA (ints p.vs) ∧ Cells w nA (ints p.now) ∧ Cells w gA (ints p.tgt) ∧ Tabs w tA p.tabs ∧
  p.vs.length ≤ 4611686018427387904 ∧ p.now.length ≤ 4611686018427387904 ∧ p.tgt.length ≤ 4611686018427387904 ∧ p.tabs.length ≤ 4611686018427387904
section
variable {w w' : World} {A : Option Addr} {xs : List Value}
theorem Cells.ext (h : Cells w A xs) (hb : Below w.heap.size w w') : Cells w' A xs := fun j hj => by
 obtain ⟨b, off, h1, h2, h3⟩ := h j hj
 exact ⟨b, off, h1, Nat.lt_of_lt_of_le h2 hb.size, (hb.cell (p := ⟨b, off + j, none⟩) h2).trans h3⟩
theorem Mat.ext {m : List (List Bool)} (h : Mat w A m) (hb : Below w.heap.size w w') : Mat w' A m := fun j hj => by
 obtain ⟨b, off, rA, rc, h1, h2, h3, h4, h5⟩ := h j hj
 exact ⟨b, off, rA, rc, h1, Nat.lt_of_lt_of_le h2 hb.size, (hb.cell (p := ⟨b, off + j, none⟩) h2).trans h3, h4.ext hb, h5⟩
theorem Tabs.ext {ts : List Tab} (h : Tabs w A ts) (hb : Below w.heap.size w w') : Tabs w' A ts := fun j hj => by
 obtain ⟨b, off, okA, okc, rwA, rwc, h1, h2, c0, c1, c2, c3, c4, c5, h4, h5, h6⟩ := h j hj
 have k : ∀ o, w'.cell? ⟨b, o, none⟩ = w.cell? ⟨b, o, none⟩ := fun o => hb.cell (p := ⟨b, o, none⟩) h2
 exact ⟨b, off, okA, okc, rwA, rwc, h1, Nat.lt_of_lt_of_le h2 hb.size, (k _).trans c0, (k _).trans c1, (k _).trans c2, (k _).trans c3, (k _).trans c4, (k _).trans c5, h4.ext hb, h5.ext hb, h6⟩
theorem ProbAt.ext {v : Value} {p : Prob} (h : ProbAt w v p) (hb : Below w.heap.size w w') : ProbAt w' v p := by
 obtain ⟨vA, vc, nA, nc, gA, gc, tA, tc, h0, h1, h2, h3, h4, h5⟩ := h
 exact ⟨vA, vc, nA, nc, gA, gc, tA, tc, h0, h1.ext hb, h2.ext hb, h3.ext hb, h4.ext hb, h5⟩
theorem Cells.nil : Cells w A [] := fun j h => absurd h (by simp)
end
end Go.Proofs.YtjpdemikmdfonaaGreatDoor
namespace Go.Proofs.YtjpdemikmdfonaaGreatDoor
open Go.RowKit
set_option linter.unusedSimpArgs false
set_option linter.unusedVariables false
structure Gr (W : World) where
 w : World
 ok : Below W.heap.size W w
instance (W : World) : Nonempty (Gr W) := ⟨⟨W, ext_refl W⟩⟩
end Go.Proofs.YtjpdemikmdfonaaGreatDoor
namespace Go.Proofs.YtjpdemikmdfonaaGreatDoor
open Go.RowKit
set_option linter.unusedSimpArgs false
set_option linter.unusedVariables false
def sqRows (l : List (List Bool)) (m : Int) : Bool := l.all fun r => (r.length : Int) == m
def sq (l : List (List Bool)) (n m : Int) : Bool := ((l.length : Int) == n) && sqRows l m
def diagFrom : List (List Bool) → Nat → Bool
 | [], _ => true
 | r :: rest, i => r.getD i false && diagFrom rest (i + 1)
def kindOK (k : Int) (aware : Bool) : Bool := decide (1 ≤ k ∧ k ≤ 4 ∧ ¬ (aware = true ∧ (k = 3 ∨ k = 4)))
def storedB (k : Int) : Bool := decide (k = 3 ∨ k = 4)
def withinB (k n : Int) : Bool := decide (0 ≤ k ∧ k < n)
def tabErr (vs : List Int) (t : Tab) : Int :=
 if kindOK t.kind t.aware = false then 1
 else if withinB t.frm vs.length = false ∨ withinB t.tto vs.length = false then 4
 else if sq t.ok (vs.getD t.frm.toNat 0) (vs.getD t.tto.toNat 0) = false ∨ (t.kind = 4 ∧ sq t.rw (vs.getD t.frm.toNat 0) (vs.getD t.frm.toNat 0) = false) ∨ (¬ t.kind = 4 ∧ 0 < t.rw.length) then 6
 else if diagFrom t.rw 0 = false then 1 else 0
def tabsErr (vs : List Int) : List Tab → Int
 | [] => 0
 | t :: rest => if tabErr vs t ≠ 0 then tabErr vs t else tabsErr vs rest
def rngOK : List Int → List Int → List Int → Bool
 | n :: vs, a :: now, b :: tgt => (decide (1 ≤ n ∧ n ≤ 6) && withinB a n && withinB b n) && rngOK vs now tgt
 | _, _, _ => true
def vpErr (p : Prob) : Int :=
 if 6 < p.vs.length ∨ 12 < p.tabs.length then 3
 else if ¬ p.now.length = p.vs.length ∨ ¬ p.tgt.length = p.vs.length then 6
 else if rngOK p.vs p.now p.tgt = false then 7
 else tabsErr p.vs p.tabs
end Go.Proofs.YtjpdemikmdfonaaGreatDoor

