/- Rules of runs and contracts of functions, for the claims of one seat. -/
import Derived.Test.YtngjhkgcfabciaaGreatQA10
import Derived.Test.YtngjhkgcfabciaaGreatQA8
namespace Go.Proofs.YtngjhkgcfabciaaGreat
open Go Go.RowKit
set_option linter.unusedSimpArgs false
set_option linter.unusedVariables false
def firstErr (f : Nat → Int) : Nat → Nat → Int
 | _, 0 => 0
 | k, r + 1 => if f k ≠ 0 then f k else firstErr f (k + 1) r
theorem firstErr_zero {f : Nat → Int} : ∀ {r k : Nat}, firstErr f k r = 0 ↔ ∀ i, i < r → f (k + i) = 0
 | 0, k => by simp [firstErr]
 | r + 1, k => by
  unfold firstErr
  constructor
  ·intro h
   split at h
   ·contradiction
   ·rename_i h0
    have h0 : f k = 0 := Classical.not_not.1 h0
    intro i hi
    cases i with
    | zero => simpa using h0
    | succ i =>
     have := firstErr_zero.1 h i (by omega)
     rw [show k + (i + 1) = k + 1 + i by omega]
     exact this
  ·intro h
   rw [if_neg (by simpa using h 0 (by omega))]
   exact firstErr_zero.2 fun i hi => by
    have := h (i + 1) (by omega)
    rw [show k + 1 + i = k + (i + 1) by omega]
    exact this
structure MixD where
 base : List Int
 next : List Int
 held : List Int
deriving DecidableEq
structure StepD where
 kind : Int
 idx : Int
 ver : Int
deriving DecidableEq
structure ConfD where
 tab : Int
 wri : Int
 rea : Int
deriving DecidableEq
def nilM : MixD := ⟨[], [], []⟩
def nilT : Tab := ⟨0, 0, 0, false, [], []⟩
def nilS : StepD := ⟨0, 0, 0⟩
def mixRow (m : MixD) : List D := [.sl 1 (dInts m.base), .sl 1 (dInts m.next), .sl 1 (dSets m.held)]
def mixC (m : MixD) : List C := [.d (.sl 1 (dInts m.base)), .d (.sl 1 (dInts m.next)), .d (.sl 1 (dSets m.held))]
def dMixes (l : List MixD) : List (List D) := l.map mixRow
def stepRow (s : StepD) : List D := [.v (.int .i64 s.kind), .v (.int .i64 s.idx), .v (.int .i64 s.ver)]
def stepC (s : StepD) : List C := [.d (.v (.int .i64 s.kind)), .d (.v (.int .i64 s.idx)), .d (.v (.int .i64 s.ver))]
def dSteps (l : List StepD) : List (List D) := l.map stepRow
def confRow (c : ConfD) : List D := [.v (.int .i64 c.tab), .v (.int .i64 c.wri), .v (.int .i64 c.rea)]
def confC (c : ConfD) : List C := [.d (.v (.int .i64 c.tab)), .d (.v (.int .i64 c.wri)), .d (.v (.int .i64 c.rea))]
def dConfs (l : List ConfD) : List (List D) := l.map confRow
theorem dSteps_len (l : List StepD) : (dSteps l).length = l.length := by simp [dSteps]
theorem row_get {α : Type} {f : α → List D} {xs : List α} {d : α} {x : Int} (h : 0 ≤ x ∧ x < xs.length) : (xs.map f)[x.toNat]? = some (f (xs.getD x.toNat d)) := by
 have h' : x.toNat < xs.length := by omega
 rw [List.getElem?_map, List.getElem?_eq_getElem h', List.getD_eq_getElem?_getD, List.getElem?_eq_getElem h']
 rfl
theorem row_getN {α : Type} {f : α → List D} {xs : List α} {d : α} {k : Nat} (h : k < xs.length) : (xs.map f)[k]? = some (f (xs.getD k d)) := by
 rw [List.getElem?_map, List.getElem?_eq_getElem h, List.getD_eq_getElem?_getD, List.getElem?_eq_getElem h]
 rfl
def one8 (v : Int) : Int := IntKind.u8.wrap (1 * 2 ^ v.toNat)
def bitOf (s v : Int) : Int := bits BinOp.and IntKind.u8 (s / 2 ^ v.toNat) 1
def hasV (s v : Int) : Bool := decide (bitOf s v = 1)
def runV (b n : Int) : Int := if 0 ≤ n then bits BinOp.or IntKind.u8 (one8 b) (one8 n) else one8 b
def runS (m : MixD) (s : Int) : Int := runV (m.base.getD s.toNat 0) (m.next.getD s.toNat 0)
def allV (n : Int) : Int := IntKind.u8.wrap (one8 n - 1)
def svcE (n b x : Int) : Int := if b < 0 ∨ n ≤ b ∨ x < -1 ∨ n ≤ x then 7 else if b = x then 1 else 0
def svcI (vs base next : List Int) (i : Nat) : Int := svcE (vs.getD i 0) (base.getD i 0) (next.getD i 0)
def heldB (p : Prob) (m : MixD) (t : Tab) (h : Int) : Bool :=
 if storedB t.kind = true then decide (¬ bits BinOp.andNot IntKind.u8 h (allV (p.vs.getD t.frm.toNat 0)) = 0) || decide (¬ bits BinOp.andNot IntKind.u8 (runS m t.frm) h = 0) else decide (¬ h = 0)
def heldI (p : Prob) (m : MixD) (i : Nat) : Int := if heldB p m (p.tabs.getD i nilT) (m.held.getD i 0) = true then 1 else 0
def mixErr (p : Prob) (m : MixD) : Int :=
 if ¬ vpErr p = 0 then vpErr p
 else if ¬ m.base.length = p.vs.length ∨ ¬ m.next.length = p.vs.length ∨ ¬ m.held.length = p.tabs.length then 6
 else if ¬ firstErr (svcI p.vs m.base m.next) 0 p.vs.length = 0 then firstErr (svcI p.vs m.base m.next) 0 p.vs.length
 else firstErr (heldI p m) 0 p.tabs.length
def startHeld (p : Prob) (t : Tab) : Int := if storedB t.kind = true then one8 (p.now.getD t.frm.toNat 0) else 0
def startM (p : Prob) : MixD := ⟨p.now, List.replicate p.vs.length (-1), p.tabs.map (startHeld p)⟩
structure MixIn (p : Prob) (m : MixD) : Prop where
 vp : vpErr p = 0
 lb : m.base.length = p.vs.length
 ln : m.next.length = p.vs.length
 lh : m.held.length = p.tabs.length
 rng : ∀ i, i < p.vs.length → (0 ≤ m.base.getD i 0 ∧ m.base.getD i 0 < p.vs.getD i 0) ∧ (-1 ≤ m.next.getD i 0 ∧ m.next.getD i 0 < p.vs.getD i 0)
theorem mixIn_of {p : Prob} {m : MixD} (h : mixErr p m = 0) : MixIn p m := by
 unfold mixErr at h
 split at h
 ·contradiction
 ·rename_i h1
  split at h
  ·cases h
  ·rename_i h2
   split at h
   ·contradiction
   ·rename_i h3
    have h3 := firstErr_zero.1 (Classical.not_not.1 h3)
    refine ⟨Classical.not_not.1 h1, by omega, by omega, by omega, fun i hi => ?_⟩
    have := h3 i hi
    rw [Nat.zero_add] at this
    unfold svcI svcE at this
    split at this
    ·cases this
    ·split at this
     ·cases this
     ·omega
def openN : List Int → Nat
 | [] => 0
 | x :: xs => (if 0 ≤ x then 1 else 0) + openN xs
def abn : List Int → Nat → List Int
 | [], _ => []
 | x :: xs, k => if 0 ≤ x then (if k % 2 = 1 then -1 else x) :: abn xs (k / 2) else x :: abn xs k
def abM (m : MixD) (k : Nat) : MixD := { m with next := abn m.next k }
def allP (m : MixD) : List MixD := (List.range (2 ^ openN m.next)).map (abM m)
def okAt (t : Tab) (u v : Nat) : Bool := (t.ok.getD u []).getD v false
def confU (p : Prob) (m : MixD) (i : Nat) (t : Tab) (u : Nat) : List ConfD :=
 ((List.range (p.vs.getD t.tto.toNat 0).toNat).flatMap fun (v : Nat) => if (hasV (runS m t.tto) v && (!t.aware && !okAt t u v)) = true then [⟨i, u, v⟩] else [])
 ++ (if (t.aware && !((List.range (p.vs.getD t.tto.toNat 0).toNat).any fun (v : Nat) => hasV (runS m t.tto) v && okAt t u v)) = true then [⟨i, u, -1⟩] else [])
def writers (p : Prob) (m : MixD) (i : Nat) (t : Tab) : Int := if storedB t.kind = true then m.held.getD i 0 else runS m t.frm
def confT (p : Prob) (m : MixD) (i : Nat) : List ConfD :=
 (List.range (p.vs.getD (p.tabs.getD i nilT).frm.toNat 0).toNat).flatMap fun (u : Nat) => if hasV (writers p m i (p.tabs.getD i nilT)) u = true then confU p m i (p.tabs.getD i nilT) u else []
def foundP (p : Prob) (m : MixD) : List ConfD := (List.range p.tabs.length).flatMap (confT p m)
def safeP (p : Prob) (m : MixD) : Bool := (foundP p m).isEmpty
def robustP (p : Prob) (m : MixD) : Bool := (allP m).all (safeP p)
def blameL (p : Prob) : List MixD → MixD × ConfD × Int
 | [] => (nilM, ⟨0, 0, 0⟩, 15)
 | x :: r => match foundP p x with
  | [] => blameL p r
  | c :: _ => (x, c, 0)
def blameP (p : Prob) (m : MixD) : MixD × ConfD × Int := if ¬ mixErr p m = 0 then (nilM, ⟨0, 0, 0⟩, mixErr p m) else blameL p (allP m)
theorem blameL_safe {p : Prob} : ∀ {l : List MixD}, l.all (safeP p) = true → blameL p l = (nilM, ⟨0, 0, 0⟩, 15)
 | [], _ => rfl
 | x :: r, h => by
  simp only [List.all_cons, Bool.and_eq_true] at h
  have h1 : foundP p x = [] := by simpa [safeP] using h.1
  unfold blameL
  rw [h1]
  exact blameL_safe h.2
def goalI (p : Prob) (m : MixD) (i : Nat) : Bool := decide (m.next.getD i 0 < 0) && decide (m.base.getD i 0 = p.tgt.getD i 0)
def goalP (p : Prob) (m : MixD) : Bool := decide (mixErr p m = 0) && (List.range m.base.length).all (goalI p m)
def cmpL : List Int → List Int → Int
 | x :: xs, y :: ys => if x < y then -1 else if y < x then 1 else cmpL xs ys
 | [], [] => 0
 | [], _ :: _ => -1
 | _ :: _, [] => 1
theorem cmpL_zero : ∀ {a b : List Int}, cmpL a b = 0 ↔ a = b
 | [], [] => by simp [cmpL]
 | [], _ :: _ => by simp [cmpL]
 | _ :: _, [] => by simp [cmpL]
 | x :: xs, y :: ys => by
  simp only [cmpL]
  by_cases h1 : x < y
  ·rw [if_pos h1]; simp; intro h; omega
  ·rw [if_neg h1]
   by_cases h2 : y < x
   ·rw [if_pos h2]; simp; intro h; omega
   ·rw [if_neg h2, cmpL_zero]
    have : x = y := by omega
    simp [this]
def cmpM (a b : MixD) : Int := if ¬ cmpL a.base b.base = 0 then cmpL a.base b.base else if ¬ cmpL a.next b.next = 0 then cmpL a.next b.next else cmpL a.held b.held
theorem cmpM_zero {a b : MixD} : cmpM a b = 0 ↔ a = b := by
 unfold cmpM
 cases a; cases b
 simp only [MixD.mk.injEq]
 split
 ·rename_i h
  constructor
  ·intro h'; contradiction
  ·rintro ⟨rfl, _, _⟩; exact absurd (cmpL_zero.2 rfl) h
 ·rename_i h
  have h := cmpL_zero.1 (Classical.not_not.1 h)
  split
  ·rename_i h2
   constructor
   ·intro h'; contradiction
   ·rintro ⟨_, rfl, _⟩; exact absurd (cmpL_zero.2 rfl) h2
  ·rename_i h2
   have h2 := cmpL_zero.1 (Classical.not_not.1 h2)
   rw [cmpL_zero]
   simp [h, h2]
def stepOK (s : StepD) : Bool := decide (1 ≤ s.kind ∧ s.kind ≤ 4 ∧ 0 ≤ s.idx ∧ 0 ≤ s.ver ∧ (s.kind = 1 ∨ s.ver = 0))
def heldUp (p : Prob) (i v : Int) (t : Tab) (h : Int) : Int := if t.frm = i ∧ storedB t.kind = true then bits BinOp.or IntKind.u8 h (one8 v) else h
def startedM (p : Prob) (m : MixD) (s : StepD) : MixD := ⟨m.base, m.next.set s.idx.toNat s.ver, (List.range m.held.length).map fun k => heldUp p s.idx s.ver (p.tabs.getD k nilT) (m.held.getD k 0)⟩
def rwAt (t : Tab) (u : Nat) (b : Int) : Bool := (t.rw.getD u []).getD b.toNat false
def clearB (p : Prob) (m : MixD) (t : Tab) (h : Int) : Bool := (List.range (p.vs.getD t.frm.toNat 0).toNat).all fun (u : Nat) => !(hasV h u && !hasV (runS m t.frm) u && (decide (t.kind = 4) && !rwAt t u (m.base.getD t.frm.toNat 0)))
def afterP (p : Prob) (m : MixD) (s : StepD) : Option MixD :=
 if s.kind = 1 then (if 0 ≤ m.next.getD s.idx.toNat 0 ∨ s.ver = m.base.getD s.idx.toNat 0 then none else some (startedM p m s))
 else if s.kind = 2 then (if m.next.getD s.idx.toNat 0 < 0 then none else some ⟨m.base.set s.idx.toNat (m.next.getD s.idx.toNat 0), m.next.set s.idx.toNat (-1), m.held⟩)
 else if s.kind = 3 then
  (if storedB (p.tabs.getD s.idx.toNat nilT).kind = false then none
   else if m.held.getD s.idx.toNat 0 = runS m (p.tabs.getD s.idx.toNat nilT).frm then none
   else if clearB p m (p.tabs.getD s.idx.toNat nilT) (m.held.getD s.idx.toNat 0) = false then none
   else some ⟨m.base, m.next, m.held.set s.idx.toNat (runS m (p.tabs.getD s.idx.toNat nilT).frm)⟩)
 else (if m.next.getD s.idx.toNat 0 < 0 then none else some ⟨m.base, m.next.set s.idx.toNat (-1), m.held⟩)
def thereB (p : Prob) (s : StepD) : Bool := if s.kind = 3 then decide (s.idx < p.tabs.length) else decide (s.idx < p.vs.length) && (decide (¬ s.kind = 1) || decide (s.ver < p.vs.getD s.idx.toNat 0))
def applyP (p : Prob) (m : MixD) (s : StepD) : MixD × Int :=
 if ¬ mixErr p m = 0 then (nilM, mixErr p m)
 else if stepOK s = false then (nilM, 1)
 else if thereB p s = false then (nilM, 4)
 else match afterP p m s with
  | none => (nilM, 11)
  | some x => (x, 0)
def stepsP (p : Prob) (m : MixD) : List StepD := (List.range 3).flatMap fun (kind : Nat) => (List.range (max p.vs.length p.tabs.length)).flatMap fun (i : Nat) => (List.range 6).flatMap fun (v : Nat) => if (applyP p m ⟨(kind : Int) + 1, i, v⟩).2 = 0 then [⟨(kind : Int) + 1, i, v⟩] else []
def runL (p : Prob) : List StepD → MixD → Nat → List MixD → List MixD × Int × Int
 | [], _, i, out => (out, i, 0)
 | s :: r, m, i, out => if ¬ (applyP p m s).2 = 0 then ([], i, (applyP p m s).2) else runL p r (applyP p m s).1 (i + 1) (out ++ [(applyP p m s).1])
def runP (p : Prob) (m : MixD) (l : List StepD) : List MixD × Int × Int := if ¬ mixErr p m = 0 then ([], 0, mixErr p m) else runL p l m 0 [m]
structure NodeD where
 mix : MixD
 before : Int
 by_ : StepD
def nilN : NodeD := ⟨nilM, 0, nilS⟩
def nodeRow (n : NodeD) : List D := mixRow n.mix ++ [.v (.int .i64 n.before)] ++ stepRow n.by_
def dNodes (l : List NodeD) : List (List D) := l.map nodeRow
def findFrom (m : MixD) : List NodeD → Nat → Int
 | [], _ => -1
 | n :: r, i => if n.mix = m then (i : Int) else findFrom m r (i + 1)
def findN (l : List NodeD) (m : MixD) : Int := findFrom m l 0
def spaceI (p : Prob) (most i : Nat) : List StepD → List NodeD → Option (List NodeD)
 | [], l => some l
 | s :: r, l =>
  let next := ((afterP p (l.getD i nilN).mix s).getD nilM)
  let l' := if robustP p next = true ∧ findN l next < 0 then l ++ [⟨next, i, s⟩] else l
  if most < l'.length then none else spaceI p most i r l'
def spaceG (p : Prob) (most : Nat) : Nat → Nat → List NodeD → Option (List NodeD)
 | 0, _, _ => none
 | n + 1, i, l => if i < l.length then (match spaceI p most i (stepsP p (l.getD i nilN).mix) l with
     | none => none
     | some l' => spaceG p most n (i + 1) l') else some l
def spaceP (p : Prob) (m : MixD) (most : Nat) : Option (List NodeD) := spaceG p most (most + 2) 0 [⟨m, -1, nilS⟩]
end Go.Proofs.YtngjhkgcfabciaaGreat

namespace Go.Proofs.YtngjhkgcfabciaaGreat
open Go Go.RowKit
set_option linter.unusedSimpArgs false
set_option linter.unusedVariables false
def nilC : ConfD := ⟨0, 0, 0⟩
def wayG (l : List NodeD) : Nat → Int → List StepD → List StepD
 | 0, _, acc => acc
 | n + 1, i, acc => if 0 ≤ (l.getD i.toNat nilN).before then wayG l n (l.getD i.toNat nilN).before ((l.getD i.toNat nilN).by_ :: acc) else acc
def wayP (l : List NodeD) (i : Nat) : List StepD := wayG l (i + 1) i []
def firstGoal (p : Prob) : List NodeD → Nat → Option Nat
 | [], _ => none
 | n :: r, i => if goalP p n.mix = true then some i else firstGoal p r (i + 1)
def fromP (p : Prob) (m : MixD) : List StepD × Int :=
 if ¬ mixErr p m = 0 then ([], mixErr p m)
 else if robustP p m = false then ([], 13)
 else match spaceP p m 20000 with
  | none => ([], 3)
  | some l => match firstGoal p l 0 with
   | none => ([], 14)
   | some i => (wayP l i, 0)
def findP (p : Prob) : List StepD × Int := if ¬ vpErr p = 0 then ([], vpErr p) else fromP p (startM p)
def lightP (p : Prob) (most : Nat) : Bool := decide (¬ vpErr p = 0) || (!robustP p (startM p) || (spaceP p (startM p) most).isSome)
abbrev Fail := Int × MixD × ConfD × Int
def failL (p : Prob) : MixD → List StepD → Int → Fail
 | m, [], i => if goalP p m = true then (0, nilM, nilC, 15) else (i, nilM, nilC, 14)
 | m, s :: r, i => if ¬ (applyP p m s).2 = 0 ∨ s.kind = 4 then (i, nilM, nilC, 0)
  else if (blameP p (applyP p m s).1).2.2 = 0 then (i, (blameP p (applyP p m s).1).1, (blameP p (applyP p m s).1).2.1, 0)
  else failL p (applyP p m s).1 r (i + 1)
def failP (p : Prob) (l : List StepD) : Fail :=
 if ¬ vpErr p = 0 then (0, nilM, nilC, vpErr p)
 else if (blameP p (startM p)).2.2 = 0 then (-1, (blameP p (startM p)).1, (blameP p (startM p)).2.1, 0)
 else failL p (startM p) l 0
def checkP (p : Prob) (l : List StepD) : Bool := decide ((failP p l).2.2.2 = 15)
theorem blame_robust {p : Prob} {m : MixD} (h : robustP p m = true) : ¬ (blameP p m).2.2 = 0 := by
 unfold blameP
 split
 ·assumption
 ·rw [blameL_safe h]
  simp
theorem steps_mem {p : Prob} {m : MixD} {s : StepD} (h : s ∈ stepsP p m) : (applyP p m s).2 = 0 ∧ (1 ≤ s.kind ∧ s.kind ≤ 3) := by
 simp only [stepsP, List.mem_flatMap, List.mem_range] at h
 obtain ⟨kind, hk, i, hi, v, hv, hs⟩ := h
 split at hs
 ·simp only [List.mem_singleton] at hs
  subst hs
  exact ⟨by assumption, by simp only; omega⟩
 ·simp at hs
theorem apply_after {p : Prob} {m : MixD} {s : StepD} (h : (applyP p m s).2 = 0) : afterP p m s = some (applyP p m s).1 ∧ mixErr p m = 0 ∧ stepOK s = true ∧ thereB p s = true := by
 unfold applyP at h ⊢
 split at h
 ·contradiction
 ·rename_i h1
  rw [if_neg h1]
  split at h
  ·cases h
  ·rename_i h2
   rw [if_neg h2]
   split at h
   ·cases h
   ·rename_i h3
    rw [if_neg h3]
    split at h
    ·cases h
    ·rename_i x hx
     simp only [hx]
     refine ⟨?_, Classical.not_not.1 h1, by simpa using h2, by simpa using h3⟩
     first | exact hx | trivial | rfl
structure NodesOK (p : Prob) (m0 : MixD) (l : List NodeD) : Prop where
 pos : 0 < l.length
 first : l.getD 0 nilN = ⟨m0, -1, nilS⟩
 rob : robustP p m0 = true
 up : ∀ k, 0 < k → k < l.length → ∃ j : Nat, j < k ∧ (l.getD k nilN).before = (j : Int) ∧ (l.getD k nilN).by_ ∈ stepsP p (l.getD j nilN).mix ∧ (l.getD k nilN).mix = ((afterP p (l.getD j nilN).mix (l.getD k nilN).by_).getD nilM) ∧ robustP p (l.getD k nilN).mix = true
theorem getD_app {α : Type} {l r : List α} {d : α} {k : Nat} (h : k < l.length) : (l ++ r).getD k d = l.getD k d := by
 rw [List.getD_eq_getElem?_getD, List.getD_eq_getElem?_getD, List.getElem?_append_left h]
theorem getD_last {α : Type} {l : List α} {x d : α} : (l ++ [x]).getD l.length d = x := by
 rw [List.getD_eq_getElem?_getD, List.getElem?_append_right (Nat.le_refl _)]
 simp
theorem NodesOK.add {p : Prob} {m0 : MixD} {l : List NodeD} (h : NodesOK p m0 l) {i : Nat} (hi : i < l.length) {s : StepD} (hs : s ∈ stepsP p (l.getD i nilN).mix) (hr : robustP p ((afterP p (l.getD i nilN).mix s).getD nilM) = true) :
    NodesOK p m0 (l ++ [⟨(afterP p (l.getD i nilN).mix s).getD nilM, i, s⟩]) := by
 refine ⟨by simp, by rw [getD_app h.pos]; exact h.first, h.rob, fun k hk hl => ?_⟩
 by_cases e : k < l.length
 ·obtain ⟨j, h1, h2, h3, h4, h5⟩ := h.up k hk e
  exact ⟨j, h1, by rw [getD_app e]; exact h2, by rw [getD_app e, getD_app (by omega)]; exact h3, by rw [getD_app e, getD_app (by omega)]; exact h4, by rw [getD_app e]; exact h5⟩
 ·have : k = l.length := by simp at hl; omega
  subst this
  exact ⟨i, hi, by rw [getD_last], by rw [getD_last, getD_app hi]; exact hs, by rw [getD_last, getD_app hi], by rw [getD_last]; exact hr⟩
theorem spaceI_ok {p : Prob} {m0 : MixD} {most i : Nat} {mx : MixD} : ∀ {ss : List StepD} {l l' : List NodeD}, NodesOK p m0 l → i < l.length → (l.getD i nilN).mix = mx → (∀ s ∈ ss, s ∈ stepsP p mx) → spaceI p most i ss l = some l' → NodesOK p m0 l' ∧ l.length ≤ l'.length ∧ (l.length ≤ most → l'.length ≤ most)
 | [], l, l', h, _, _, _, he => by
  simp only [spaceI, Option.some.injEq] at he
  subst he
  exact ⟨h, Nat.le_refl _, id⟩
 | s :: r, l, l', h, hi, hm, hs, he => by
  by_cases hc : robustP p ((afterP p (l.getD i nilN).mix s).getD nilM) = true ∧ findN l ((afterP p (l.getD i nilN).mix s).getD nilM) < 0
  ·simp only [spaceI] at he
   rw [if_pos hc] at he
   by_cases hle : most < (l ++ [(⟨(afterP p (l.getD i nilN).mix s).getD nilM, i, s⟩ : NodeD)]).length
   ·rw [if_pos hle] at he; cases he
   ·rw [if_neg hle] at he
    have := spaceI_ok (h.add hi (by rw [hm]; exact hs s (by simp)) hc.1) (by simp; omega) (by rw [getD_app hi]; exact hm) (fun x hx => hs x (by simp [hx])) he
    have h2 := this.2.1
    simp at h2 hle
    exact ⟨this.1, by omega, fun _ => this.2.2 (by simp; omega)⟩
  ·simp only [spaceI] at he
   rw [if_neg hc] at he
   by_cases hle : most < l.length
   ·rw [if_pos hle] at he; cases he
   ·rw [if_neg hle] at he
    exact spaceI_ok h hi hm (fun x hx => hs x (by simp [hx])) he
theorem spaceG_ok {p : Prob} {m0 : MixD} {most : Nat} : ∀ {n i : Nat} {l l' : List NodeD}, NodesOK p m0 l → spaceG p most n i l = some l' → NodesOK p m0 l' ∧ (l.length ≤ most → l'.length ≤ most)
 | 0, _, _, _, _, he => by cases he
 | n + 1, i, l, l', h, he => by
  unfold spaceG at he
  split at he
  ·rename_i hi
   split at he
   ·cases he
   ·rename_i l1 h1
    have k1 := spaceI_ok h hi rfl (fun s hs => hs) h1
    have k2 := spaceG_ok k1.1 he
    exact ⟨k2.1, fun hl => k2.2 (k1.2.2 hl)⟩
  ·cases he
   exact ⟨h, id⟩
theorem spaceP_ok {p : Prob} {m : MixD} {most : Nat} {l : List NodeD} (hr : robustP p m = true) (hm : 1 ≤ most) (h : spaceP p m most = some l) : NodesOK p m l ∧ l.length ≤ most := by
 have h0 : NodesOK p m [⟨m, -1, nilS⟩] := ⟨by simp, rfl, hr, fun k hk hl => by simp at hl; omega⟩
 have := spaceG_ok h0 h
 exact ⟨this.1, this.2 (by simpa using hm)⟩
theorem firstGoal_some {p : Prob} : ∀ {l : List NodeD} {i k : Nat}, firstGoal p l i = some k → i ≤ k ∧ k < i + l.length ∧ goalP p (l.getD (k - i) nilN).mix = true
 | [], _, _, h => by cases h
 | n :: r, i, k, h => by
  unfold firstGoal at h
  split at h
  ·rename_i hg
   cases h
   exact ⟨Nat.le_refl _, by simp, by simpa using hg⟩
  ·obtain ⟨h1, h2, h3⟩ := firstGoal_some h
   refine ⟨by omega, by simp; omega, ?_⟩
   rw [show k - i = (k - (i + 1)) + 1 by omega]
   exact h3
theorem wayG_acc {p : Prob} {m0 : MixD} {l : List NodeD} (h : NodesOK p m0 l) : ∀ {k n : Nat} (acc : List StepD), k < l.length → k < n → wayG l n (k : Int) acc = wayG l n (k : Int) [] ++ acc := by
 intro k
 induction k using Nat.strongRecOn with
 | _ k ih =>
  intro n acc hk hn
  obtain ⟨n, rfl⟩ : ∃ m, n = m + 1 := ⟨n - 1, by omega⟩
  simp only [wayG, Int.toNat_natCast]
  by_cases h0 : k = 0
  ·subst h0
   rw [h.first]
   simp
  ·obtain ⟨j, h1, h2, h3, h4, h5⟩ := h.up k (by omega) hk
   rw [h2, if_pos (by omega), if_pos (by omega), ih j h1 (acc := _ :: acc) (by omega) (by omega), ih j h1 (acc := [_]) (by omega) (by omega)]
   simp
theorem wayG_fuel {p : Prob} {m0 : MixD} {l : List NodeD} (h : NodesOK p m0 l) : ∀ {k n n' : Nat} (acc : List StepD), k < l.length → k < n → k < n' → wayG l n (k : Int) acc = wayG l n' (k : Int) acc := by
 intro k
 induction k using Nat.strongRecOn with
 | _ k ih =>
  intro n n' acc hk hn hn'
  obtain ⟨n, rfl⟩ : ∃ m, n = m + 1 := ⟨n - 1, by omega⟩
  obtain ⟨n', rfl⟩ : ∃ m, n' = m + 1 := ⟨n' - 1, by omega⟩
  simp only [wayG, Int.toNat_natCast]
  by_cases h0 : k = 0
  ·subst h0
   rw [h.first]
   simp
  ·obtain ⟨j, h1, h2, h3, h4, h5⟩ := h.up k (by omega) hk
   rw [h2, if_pos (by omega), if_pos (by omega)]
   exact ih j h1 _ (by omega) (by omega) (by omega)
theorem way_leads {p : Prob} {m0 : MixD} {l : List NodeD} (h : NodesOK p m0 l) : ∀ {k : Nat}, k < l.length → ∃ i' : Int, ∀ r, failL p m0 (wayP l k ++ r) 0 = failL p (l.getD k nilN).mix r i' := by
 intro k
 induction k using Nat.strongRecOn with
 | _ k ih =>
  intro hk
  by_cases h0 : k = 0
  ·subst h0
   refine ⟨0, fun r => ?_⟩
   have hf := h.first
   have : wayP l 0 = [] := by
    unfold wayP wayG
    rw [show ((0 : Nat) : Int).toNat = 0 from rfl, hf, if_neg (by simp)]
   rw [this, h.first]
   rfl
  ·obtain ⟨j, h1, h2, h3, h4, h5⟩ := h.up k (by omega) hk
   obtain ⟨i', hi⟩ := ih j h1 (by omega)
   refine ⟨i' + 1, fun r => ?_⟩
   have hw : wayP l k = wayP l j ++ [(l.getD k nilN).by_] := by
    have : wayP l k = wayG l k (j : Int) [(l.getD k nilN).by_] := by
     simp only [wayP, wayG, Int.toNat_natCast]
     rw [h2, if_pos (by omega)]
    rw [this, wayG_acc h _ (by omega) (by omega), wayG_fuel h (n' := j + 1) _ (by omega) (by omega) (by omega)]
    rfl
   obtain ⟨s1, s2⟩ := steps_mem h3
   obtain ⟨a1, a2, a3, a4⟩ := apply_after s1
   have hm : (l.getD k nilN).mix = (applyP p (l.getD j nilN).mix (l.getD k nilN).by_).1 := by rw [h4, a1]; rfl
   rw [hw, List.append_assoc, hi, List.singleton_append]
   simp only [failL]
   rw [if_neg (by rintro (h | h); exact h s1; omega), ← hm, if_neg (blame_robust h5)]
theorem find_check {p : Prob} (h : (findP p).2 = 0) : checkP p (findP p).1 = true ∧ vpErr p = 0 ∧ (findP p).1.length ≤ 20000 := by
 unfold findP fromP at h ⊢
 split at h
 ·contradiction
 ·rename_i h1
  rw [if_neg h1]
  split at h
  ·contradiction
  ·rename_i h2
   rw [if_neg h2]
   split at h
   ·cases h
   ·rename_i h3
    rw [if_neg h3]
    split at h
    ·cases h
    ·rename_i l hl
     split at h
     ·cases h
     ·rename_i i hi
      simp only [hl, hi]
      obtain ⟨hN, hlen⟩ := spaceP_ok (by simpa using h3) (by omega) hl
      obtain ⟨g1, g2, g3⟩ := firstGoal_some hi
      obtain ⟨i', hw⟩ := way_leads hN (k := i) (by omega)
      have hw0 := hw []
      rw [List.append_nil] at hw0
      refine ⟨?_, Classical.not_not.1 h1, ?_⟩
      ·have hF : failP p (wayP l i) = (0, nilM, nilC, 15) := by
         unfold failP
         rw [if_neg h1, if_neg (blame_robust (by simpa using h3)), hw0]
         simp only [failL]
         rw [if_pos (by simpa using g3)]
       simp only [checkP, hF, decide_true]
      ·have gen : ∀ (n : Nat) (x : Int) (acc : List StepD), (wayG l n x acc).length ≤ n + acc.length := by
         intro n
         induction n with
         | zero => intro x acc; simp [wayG]
         | succ n ih =>
          intro x acc
          simp only [wayG]
          split
          ·have := ih (l.getD x.toNat nilN).before ((l.getD x.toNat nilN).by_ :: acc)
           simp at this ⊢
           omega
          ·omega
       have := gen (i + 1) i []
       simp only [List.length_nil, Nat.add_zero] at this
       unfold wayP
       omega
end Go.Proofs.YtngjhkgcfabciaaGreat

namespace Go.Proofs.YtngjhkgcfabciaaGreat
open Go Go.RowKit
set_option linter.unusedSimpArgs false
set_option linter.unusedVariables false
structure CtlD where
 plan : List StepD
 at_ : Int
 phase : Int
 replica : Int
 round : Int
 token : Int
 mix : MixD
deriving DecidableEq
def nilCtl : CtlD := ⟨[], 0, 0, 0, 0, 0, nilM⟩
def ctlRow (c : CtlD) : List D := [.sl 3 (dSteps c.plan), .v (.int .i64 c.at_), .v (.int .i64 c.phase), .v (.int .i64 c.replica), .v (.int .i64 c.round), .v (.int .i64 c.token), .sl 1 (dInts c.mix.base), .sl 1 (dInts c.mix.next), .sl 1 (dSets c.mix.held)]
def ctlC (c : CtlD) : List C := (ctlRow c).map .d
structure SigD where
 kind : Int
 token : Int
 round : Int
 replica : Int
 ver : Int
 pass : Bool
 table : Int
def sigC (s : SigD) : List C := [.d (.v (.int .i64 s.kind)), .d (.v (.int .i64 s.token)), .d (.v (.int .i64 s.round)), .d (.v (.int .i64 s.replica)), .d (.v (.int .i64 s.ver)), .d (.v (.bool s.pass)), .d (.v (.int .i64 s.table))]
structure EntD where
 kind : Int
 token : Int
 idx : Int
 data : ByteArray
def entRow (e : EntD) : List D := [.v (.int .i64 e.kind), .v (.int .i64 e.token), .v (.int .i64 e.idx), .v (.string e.data)]
def dEnts (l : List EntD) : List (List D) := l.map entRow
def nilE : EntD := ⟨0, 0, 0, ByteArray.empty⟩
structure ActD where
 kind : Int
 ent : EntD
 round : Int
 replica : Int
 ver : Int
 service : Int
 table : Int
def actRow (a : ActD) : List D := [.v (.int .i64 a.kind)] ++ entRow a.ent ++ [.v (.int .i64 a.round), .v (.int .i64 a.replica), .v (.int .i64 a.ver), .v (.int .i64 a.service), .v (.int .i64 a.table)]
def dActs (l : List ActD) : List (List D) := l.map actRow
def w64 (n : Int) : Int := IntKind.i64.wrap n
def replOK (n : Int) : Bool := decide (1 ≤ n ∧ n ≤ 4)
def setErr (p : Prob) (rs : List Int) : Int :=
 if ¬ vpErr p = 0 then vpErr p else if ¬ rs.length = p.vs.length then 6 else if rs.all replOK = false then 7 else 0
def firstR (rs : List Int) (s : Int) : Int := (rs.take s.toNat).sum
def newP (p : Prob) (rs : List Int) (l : List StepD) : CtlD × Int :=
 if ¬ setErr p rs = 0 then (nilCtl, setErr p rs)
 else if checkP p l = false then (nilCtl, 13)
 else (⟨l, 0, if l.length = 0 then 6 else 0, 0, 0, 0, startM p⟩, 0)
def mixesP (p : Prob) (l : List StepD) : List MixD := (runP p (startM p) l).1
def kindP (l : List StepD) (at_ : Int) : Int := if at_ < l.length then (l.getD at_.toNat nilS).kind else 0
def abortM (p : Prob) (m : MixD) (i : Int) : MixD := (afterP p m ⟨4, i, 0⟩).getD nilM
def abortedP (p : Prob) (l : List StepD) (at_ : Int) : MixD := abortM p ((mixesP p l).getD (at_ + 1).toNat nilM) (l.getD at_.toNat nilS).idx
def expectP (p : Prob) (l : List StepD) (at_ phase : Int) : MixD × Int :=
 if ¬ vpErr p = 0 then (nilM, vpErr p)
 else if checkP p l = false then (nilM, 13)
 else if at_ < 0 ∨ l.length < at_ ∨ ¬ (phase = 6 ↔ at_ = l.length) then (nilM, 7)
 else if phase = 0 ∨ phase = 6 ∨ (phase = 1 ∧ kindP l at_ = 2) ∨ (phase = 4 ∧ kindP l at_ = 3) then ((mixesP p l).getD at_.toNat nilM, 0)
 else if (phase = 1 ∨ phase = 2 ∨ phase = 3) ∧ kindP l at_ = 1 then ((mixesP p l).getD (at_ + 1).toNat nilM, 0)
 else if phase = 5 ∧ kindP l at_ = 1 then (abortedP p l at_, 0)
 else (nilM, 7)
def extraP (phase : Int) : Int := if phase = 1 ∨ phase = 2 then 1 else if phase = 3 ∨ phase = 5 then 2 else if phase = 4 then 1 else 0
def present (c : CtlD) : StepD := c.plan.getD c.at_.toNat nilS
def busyP (phase : Int) : Bool := decide (phase = 1 ∨ phase = 2 ∨ phase = 3)
def lowP (rs : List Int) (c : CtlD) : Int := if busyP c.phase = true then firstR rs (present c).idx else 0
def highP (rs : List Int) (c : CtlD) : Int := if busyP c.phase = true ∧ (present c).kind = 2 then firstR rs (present c).idx + rs.getD (present c).idx.toNat 0 - 1 else lowP rs c
def restP (c : CtlD) : Int := c.round - 2 * c.at_ - extraP c.phase
def validP (p : Prob) (rs : List Int) (c : CtlD) : Bool :=
 if ¬ setErr p rs = 0 ∨ c.token < 0 then false
 else if ¬ (expectP p c.plan c.at_ c.phase).2 = 0 then false
 else if c.round < 2 * c.at_ + extraP c.phase then false
 else if ¬ (restP c).tmod 3 = 0 ∨ c.replica < lowP rs c ∨ highP rs c < c.replica then false
 else if c.mix = (expectP p c.plan c.at_ c.phase).1 then true
 else decide (c.phase = 0 ∧ kindP c.plan c.at_ = 1 ∧ 3 ≤ restP c ∧ c.mix = abortedP p c.plan c.at_)
def wantedP (c : CtlD) : Int := if c.phase = 3 then c.mix.base.getD (present c).idx.toNat 0 else c.mix.next.getD (present c).idx.toNat 0
def repeatP (c : CtlD) : List ActD :=
 if c.phase = 1 ∨ c.phase = 3 then [⟨2, nilE, c.round, c.replica, wantedP c, 0, 0⟩]
 else if c.phase = 2 then [⟨3, nilE, c.round, c.replica, wantedP c, (present c).idx, 0⟩]
 else if c.phase = 4 then [⟨4, nilE, c.round, 0, 0, 0, (present c).idx⟩]
 else []
def entA (c : CtlD) (kind : Int) : ActD := ⟨1, ⟨kind, c.token, c.at_, ByteArray.empty⟩, 0, 0, 0, 0, 0⟩
def bump (c : CtlD) : CtlD := { c with round := w64 (c.round + 1) }
def afterM (p : Prob) (m : MixD) (s : StepD) : MixD := (afterP p m s).getD nilM
def doneC (p : Prob) (c : CtlD) : CtlD :=
 { plan := c.plan, at_ := w64 (c.at_ + 1), phase := if w64 (c.at_ + 1) = c.plan.length then 6 else 0, replica := 0, round := w64 (c.round + 1), token := c.token, mix := if ¬ (present c).kind = 1 then afterM p c.mix (present c) else c.mix }
def beginC (p : Prob) (rs : List Int) (c : CtlD) : CtlD :=
 { plan := c.plan, at_ := c.at_, phase := if (present c).kind = 3 then 4 else 1, replica := if (present c).kind = 3 then c.replica else firstR rs (present c).idx, round := w64 (c.round + 1), token := c.token, mix := if (present c).kind = 1 then afterM p c.mix (present c) else c.mix }
def tickP (p : Prob) (rs : List Int) (c : CtlD) : CtlD × List ActD :=
 if ¬ c.phase = 0 then (c, repeatP c) else (beginC p rs c, entA c 1 :: repeatP (beginC p rs c))
def ackP (p : Prob) (rs : List Int) (c : CtlD) (s : SigD) : CtlD × List ActD :=
 if ¬ s.replica = c.replica ∨ ¬ s.ver = wantedP c then (c, [])
 else if c.phase = 3 then ({ c with mix := abortedP p c.plan c.at_, phase := 5, replica := 0 }, [])
 else if (present c).kind = 1 then ({ c with phase := 2 }, repeatP { c with phase := 2 })
 else if c.replica = firstR rs (present c).idx + rs.getD (present c).idx.toNat 0 - 1 then (doneC p c, [entA c 2])
 else ({ c with replica := w64 (c.replica + 1) }, repeatP { c with replica := w64 (c.replica + 1) })
def nextP (p : Prob) (rs : List Int) (c : CtlD) (s : SigD) : CtlD × List ActD :=
 if s.kind = 1 then (if s.token ≤ c.token then (c, []) else tickP p rs { c with token := s.token })
 else if c.token = 0 then (c, [])
 else if s.kind = 2 then ({ c with token := 0 }, [])
 else if s.kind = 3 then tickP p rs c
 else if s.kind = 4 ∧ s.round = c.round ∧ (c.phase = 1 ∨ c.phase = 3) then ackP p rs c s
 else if s.kind = 5 ∧ s.round = c.round ∧ c.phase = 2 then (if s.pass = true then (doneC p c, [entA c 2]) else ({ bump c with phase := 3 }, entA c 3 :: repeatP { bump c with phase := 3 }))
 else if s.kind = 6 ∧ s.round = c.round ∧ c.phase = 4 ∧ s.table = (present c).idx then (doneC p c, [entA c 2])
 else if s.kind = 7 ∧ c.phase = 5 then ({ bump c with phase := 0 }, [entA c 4])
 else (c, [])
def sig (kind : Int) : SigD := ⟨kind, 0, 0, 0, 0, false, 0⟩
def usefulP (c : CtlD) (n : Int) : SigD :=
 if c.token = 0 then { sig 1 with token := 1 + n.tdiv 32 }
 else
  let late := if n.tmod 16 = 15 then w64 (c.round - 1) else c.round
  if n.tmod 16 = 12 then sig 3
  else if n.tmod 16 = 13 then sig 2
  else if n.tmod 16 = 14 then { sig 1 with token := w64 (c.token + n.tdiv 128) }
  else if c.phase = 1 ∨ c.phase = 3 then { sig 4 with round := late, replica := c.replica, ver := wantedP c }
  else if c.phase = 2 then { sig 5 with round := late, pass := !decide (n.tmod 4 = 3) }
  else if c.phase = 4 then { sig 6 with round := late, table := (present c).idx }
  else if c.phase = 5 then sig 7
  else sig 3
end Go.Proofs.YtngjhkgcfabciaaGreat

namespace Go.Proofs.YtngjhkgcfabciaaGreat
open Go Go.RowKit
set_option linter.unusedSimpArgs false
set_option linter.unusedVariables false
def tabC (t : Tab) : List C := [.d (.v (.int .i64 t.kind)), .d (.v (.int .i64 t.frm)), .d (.v (.int .i64 t.tto)), .d (.v (.bool t.aware)), .d (.sl 1 (dMat t.ok)), .d (.sl 1 (dMat t.rw))]
def nilP : Prob := ⟨[], [], [], []⟩
theorem vp_parts {p : Prob} : vpErr p = 0 ↔ (p.vs.length ≤ 6 ∧ p.tabs.length ≤ 12) ∧ (p.now.length = p.vs.length ∧ p.tgt.length = p.vs.length) ∧ rngOK p.vs p.now p.tgt = true ∧ tabsErr p.vs p.tabs = 0 := by
 unfold vpErr
 constructor
 ·intro h
  split at h
  ·cases h
  ·split at h
   ·cases h
   ·split at h
    ·cases h
    ·rename_i h1 h2 h3
     exact ⟨by omega, by omega, by simpa using h3, h⟩
 ·rintro ⟨h1, h2, h3, h4⟩
  rw [if_neg (by omega), if_neg (by omega), if_neg (by simp [h3])]
  exact h4
theorem rngOK_get : ∀ {vs now tgt : List Int}, now.length = vs.length → tgt.length = vs.length → (rngOK vs now tgt = true ↔ ∀ i (h : i < vs.length), (1 ≤ vs[i] ∧ vs[i] ≤ 6) ∧ withinB (now.getD i 0) vs[i] = true ∧ withinB (tgt.getD i 0) vs[i] = true)
 | [], [], [], _, _ => by simp [rngOK]
 | n :: vs, a :: now, b :: tgt, h1, h2 => by
  have ih := rngOK_get (vs := vs) (now := now) (tgt := tgt) (by simpa using h1) (by simpa using h2)
  simp only [rngOK, Bool.and_eq_true, decide_eq_true_eq]
  rw [ih]
  constructor
  ·rintro ⟨⟨⟨k1, k2⟩, k3⟩, k4⟩ i hi
   rcases i with _ | i
   ·exact ⟨k1, by simpa using k2, by simpa using k3⟩
   ·simpa using k4 i (by simpa using hi)
  ·intro h
   have h0 := h 0 (by simp)
   exact ⟨⟨⟨h0.1, by simpa using h0.2.1⟩, by simpa using h0.2.2⟩, fun i hi => h (i + 1) (by simpa using hi)⟩
 | [], _ :: _, _, h, _ => by simp at h
 | [], [], _ :: _, _, h => by simp at h
 | _ :: _, [], _, h, _ => by simp at h
 | _ :: _, _ :: _, [], _, h => by simp at h
theorem tabsErr_zero {vs : List Int} : ∀ {ts : List Tab}, tabsErr vs ts = 0 ↔ ∀ t ∈ ts, tabErr vs t = 0
 | [] => by simp [tabsErr]
 | t :: ts => by
  unfold tabsErr
  constructor
  ·intro h
   split at h
   ·rename_i h1; exact absurd h h1
   ·rename_i h1
    intro u hu
    rcases List.mem_cons.1 hu with rfl | hu
    ·exact Classical.byContradiction h1
    ·exact tabsErr_zero.1 h u hu
  ·intro h
   rw [if_neg (by simpa using h t (by simp))]
   exact tabsErr_zero.2 fun u hu => h u (by simp [hu])
structure LinkD where
 kind : Int
 frm : Int
 tto : Int
 aware : Bool
 bad : Int
 lost : Int
structure DraftD where
 vs : List Int
 now : List Int
 tgt : List Int
 links : List LinkD
def linkRow (l : LinkD) : List D := [.v (.int .u8 l.kind), .v (.int .u8 l.frm), .v (.int .u8 l.tto), .v (.bool l.aware), .v (.int .u16 l.bad), .v (.int .u16 l.lost)]
def dLinks (ls : List LinkD) : List (List D) := ls.map linkRow
def draftC (d : DraftD) : List C := [.d (.sl 1 (dSets d.vs)), .d (.sl 1 (dSets d.now)), .d (.sl 1 (dSets d.tgt)), .d (.sl 6 (dLinks d.links))]
def u8s (xs : List Int) : Prop := ∀ x ∈ xs, 0 ≤ x ∧ x < 256
def linkOK (l : LinkD) : Prop := (0 ≤ l.kind ∧ l.kind < 256) ∧ (0 ≤ l.frm ∧ l.frm < 256) ∧ (0 ≤ l.tto ∧ l.tto < 256) ∧ (0 ≤ l.bad ∧ l.bad < 65536) ∧ (0 ≤ l.lost ∧ l.lost < 65536)
def draftOK (d : DraftD) : Prop := u8s d.vs ∧ u8s d.now ∧ u8s d.tgt ∧ ∀ l ∈ d.links, linkOK l
def nP (x : Int) : Int := 1 + x.tmod 3
theorem nP_rng {x : Int} (h : 0 ≤ x) : 1 ≤ nP x ∧ nP x ≤ 3 := by
 have h1 := Int.tmod_nonneg 3 h
 have h2 := Int.tmod_lt_of_pos x (show (0 : Int) < 3 by omega)
 unfold nP
 omega
def modsP (l vs : List Int) (k : Nat) : List Int := (List.range k).map fun i => (l.getD i 0).tmod (nP (vs.getD i 0))
def entryP (bad : Int) (diag : Bool) (i j : Nat) : Bool := (diag && decide (i = j)) || decide ((bad / 2 ^ (3 * i + j)).tmod 2 = 0)
def rowP (bad : Int) (diag : Bool) (i m : Nat) : List Bool := (List.range m).map fun j => entryP bad diag i j
def bitsP (n m : Nat) (bad : Int) (diag : Bool) : List (List Bool) := (List.range n).map fun i => rowP bad diag i m
def tabP (vs : List Int) (l : LinkD) : Tab :=
 let k := 1 + l.kind.tmod 4
 let f := l.frm.tmod vs.length
 let t := l.tto.tmod vs.length
 { kind := k, frm := f, tto := t, aware := l.aware && !(decide (k = 3) || decide (k = 4)), ok := bitsP (vs.getD f.toNat 0).toNat (vs.getD t.toNat 0).toNat l.bad false, rw := if k = 4 then bitsP (vs.getD f.toNat 0).toNat (vs.getD f.toNat 0).toNat l.lost true else [] }
def nvs (d : DraftD) : List Int := d.vs.map nP
def ofOK (d : DraftD) : Bool := decide (d.vs.length ≤ 3) && decide (d.links.length ≤ 4)
def ofP (d : DraftD) : Prob := if ofOK d then ⟨nvs d, modsP d.now d.vs d.vs.length, modsP d.tgt d.vs d.vs.length, if d.vs.length = 0 then [] else d.links.map (tabP (nvs d))⟩ else nilP
theorem bitsP_sq (n m : Nat) (bad : Int) (diag : Bool) : sq (bitsP n m bad diag) n m = true := by
 simp [sq, sqRows, bitsP, rowP]
theorem bitsP_diag (n : Nat) (bad : Int) : diagFrom (bitsP n n bad true) 0 = true := by
 have gen : ∀ (l : List (List Bool)) (i : Nat), (∀ j (h : j < l.length), (l[j]).getD (i + j) false = true) → diagFrom l i = true := by
  intro l
  induction l with
  | nil => intros; rfl
  | cons r rest ih =>
   intro i h
   unfold diagFrom
   rw [show r.getD i false = true from h 0 (by simp), ih (i + 1) fun j hj => by
    have := h (j + 1) (by simpa using hj)
    rw [show i + 1 + j = i + (j + 1) by omega]
    exact this]
   rfl
 refine gen _ 0 fun j h => ?_
 have hj : j < n := by simpa [bitsP] using h
 simp [bitsP, rowP, hj, entryP]
theorem tabP_sound {vs : List Int} {l : LinkD} (hl : linkOK l) (hv : ∀ x ∈ vs, 1 ≤ x) (hn : 0 < vs.length) : tabErr vs (tabP vs l) = 0 := by
 have hk0 := Int.tmod_nonneg 4 hl.1.1
 have hk1 := Int.tmod_lt_of_pos l.kind (show (0 : Int) < 4 by omega)
 have hf0 := Int.tmod_nonneg (vs.length : Int) hl.2.1.1
 have hf1 := Int.tmod_lt_of_pos l.frm (show (0 : Int) < (vs.length : Int) by omega)
 have ht0 := Int.tmod_nonneg (vs.length : Int) hl.2.2.1.1
 have ht1 := Int.tmod_lt_of_pos l.tto (show (0 : Int) < (vs.length : Int) by omega)
 have hpos : ∀ i : Nat, 0 ≤ vs.getD i 0 := by
  intro i
  rw [List.getD_eq_getElem?_getD]
  by_cases h : i < vs.length
  ·rw [List.getElem?_eq_getElem h]
   have := hv _ (List.getElem_mem h)
   simp; omega
  ·rw [List.getElem?_eq_none (by omega)]; simp
 have e1 := hpos (l.frm.tmod vs.length).toNat
 have e2 := hpos (l.tto.tmod vs.length).toNat
 have s1 := bitsP_sq (vs.getD (l.frm.tmod vs.length).toNat 0).toNat (vs.getD (l.tto.tmod vs.length).toNat 0).toNat l.bad false
 rw [Int.toNat_of_nonneg e1, Int.toNat_of_nonneg e2] at s1
 have s2 := bitsP_sq (vs.getD (l.frm.tmod vs.length).toNat 0).toNat (vs.getD (l.frm.tmod vs.length).toNat 0).toNat l.lost true
 rw [Int.toNat_of_nonneg e1] at s2
 have s3 := bitsP_diag (vs.getD (l.frm.tmod vs.length).toNat 0).toNat l.lost
 have w1 : withinB (l.frm.tmod vs.length) vs.length = true := by simp only [withinB, decide_eq_true_eq]; omega
 have w2 : withinB (l.tto.tmod vs.length) vs.length = true := by simp only [withinB, decide_eq_true_eq]; omega
 have k1 : kindOK (1 + l.kind.tmod 4) (l.aware && !(decide (1 + l.kind.tmod 4 = 3) || decide (1 + l.kind.tmod 4 = 4))) = true := by
  simp only [kindOK, decide_eq_true_eq]
  refine ⟨by omega, by omega, fun ⟨h1, h2⟩ => ?_⟩
  simp only [Bool.and_eq_true, Bool.not_eq_true', Bool.or_eq_false_iff, decide_eq_false_iff_not] at h1
  rcases h2 with h2 | h2
  ·exact h1.2.1 h2
  ·exact h1.2.2 h2
 unfold tabErr
 simp only [tabP, k1, w1, w2, s1]
 by_cases h4 : 1 + l.kind.tmod 4 = 4
 ·simp only [List.getD_eq_getElem?_getD] at s2 s3
  simp [h4, s2, s3]
 ·simp [h4, diagFrom]
theorem ofP_sound {d : DraftD} (hd : draftOK d) (ho : ofOK d = true) : vpErr (ofP d) = 0 := by
 have ho' := ho
 simp only [ofOK, Bool.and_eq_true, decide_eq_true_eq] at ho'
 unfold ofP
 rw [if_pos ho]
 have hv : ∀ x ∈ nvs d, 1 ≤ x := fun x hx => by
  obtain ⟨y, hy, rfl⟩ := List.mem_map.1 hx
  exact (nP_rng (hd.1 y hy).1).1
 refine vp_parts.2 ⟨⟨by simp [nvs]; omega, ?_⟩, ⟨by simp [nvs, modsP], by simp [nvs, modsP]⟩, ?_, ?_⟩
 ·simp only; split
  ·simp
  ·simp; omega
 ·rw [rngOK_get (by simp [nvs, modsP]) (by simp [nvs, modsP])]
  intro i hi
  have hi' : i < d.vs.length := by simpa [nvs] using hi
  have hx := hd.1 _ (List.getElem_mem hi')
  have hn := nP_rng hx.1
  have e : (nvs d)[i]'(by simpa [nvs] using hi') = nP d.vs[i] := by simp [nvs]
  have wm : ∀ l : List Int, u8s l → withinB ((modsP l d.vs d.vs.length).getD i 0) (nP d.vs[i]) = true := by
   intro l hl
   have e1 : (modsP l d.vs d.vs.length).getD i 0 = (l.getD i 0).tmod (nP d.vs[i]) := by
    simp [modsP, List.getD_eq_getElem?_getD, hi']
   have h0 : 0 ≤ l.getD i 0 := by
    rw [List.getD_eq_getElem?_getD]
    by_cases h : i < l.length
    ·rw [List.getElem?_eq_getElem h]
     exact (hl _ (List.getElem_mem h)).1
    ·rw [List.getElem?_eq_none (by omega)]; simp
   rw [e1]
   simp only [withinB, decide_eq_true_eq]
   exact ⟨Int.tmod_nonneg _ h0, Int.tmod_lt_of_pos _ (by omega)⟩
  simp only
  rw [e]
  exact ⟨⟨hn.1, by omega⟩, wm _ hd.2.1, wm _ hd.2.2.1⟩
 ·simp only
  split
  ·rfl
  ·rename_i h0
   rw [tabsErr_zero]
   intro t ht
   obtain ⟨l, hl, rfl⟩ := List.mem_map.1 ht
   exact tabP_sound (hd.2.2.2 l hl) hv (by simp [nvs]; omega)
end Go.Proofs.YtngjhkgcfabciaaGreat

