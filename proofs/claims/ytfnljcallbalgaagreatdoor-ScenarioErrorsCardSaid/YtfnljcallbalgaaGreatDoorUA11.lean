/- Rules of runs and contracts of functions, for the claims of one seat. -/
import Derived.Test.YtfnljcallbalgaaGreatDoorUA10
namespace Go.Proofs.YtfnljcallbalgaaGreatDoor
open Go Go.RowKit
set_option linter.unusedSimpArgs false
set_option linter.unusedVariables false
def nilC : ConfD := ⟨0, 0, 0⟩
abbrev Fail := Int × MixD × ConfD × Int
def failL (p : Prob) : MixD → List StepD → Int → Fail
 | m, [], i => if goalP p m = true then (0, nilM, nilC, 15) else (i, nilM, nilC, 14)
 | m, s :: r, i => if ¬ (applyP p m s).2 = 0 ∨ s.kind = 4 then (i, nilM, nilC, 0)
  else if (blameP p (applyP p m s).1).2.2 = 0 then (i, (blameP p (applyP p m s).1).1, (blameP p (applyP p m s).1).2.1, 0)
  else failL p (applyP p m s).1 r (i + 1)
def failP (p : Prob) (l : List StepD) : Fail :=
 if ¬ vpErr p = 0 then (0, nilM, nilC, vpErr p)
 else if (blameP p (startM p)).2.2 = 0 then (-1, (blameP p (startM p)).1, (blameP p (startM p)).2.1, 0)
 else failL p (startM p) l 0
def checkP (p : Prob) (l : List StepD) : Bool := decide ((failP p l).2.2.2 = 15)
theorem apply_after {p : Prob} {m : MixD} {s : StepD} (h : (applyP p m s).2 = 0) : afterP p m s = some (applyP p m s).1 ∧ mixErr p m = 0 ∧ stepOK s = true ∧ thereB p s = true := by
 unfold applyP at h ⊢
 split at h
 ·contradiction
 ·rename_i h1
  rw [if_neg h1]
  split at h
  ·cases h
  ·rename_i h2
   rw [if_neg h2]
   split at h
   ·cases h
   ·rename_i h3
    rw [if_neg h3]
    split at h
    ·cases h
    ·rename_i x hx
     simp only [hx]
     refine ⟨?_, Classical.not_not.1 h1, by simpa using h2, by simpa using h3⟩
     first | exact hx | trivial | rfl
structure NodesOK (p : Prob) (m0 : MixD) (l : List NodeD) : Prop where
 pos : 0 < l.length
 first : l.getD 0 nilN = ⟨m0, -1, nilS⟩
 rob : robustP p m0 = true
 up : ∀ k, 0 < k → k < l.length → ∃ j : Nat, j < k ∧ (l.getD k nilN).before = (j : Int) ∧ (l.getD k nilN).by_ ∈ stepsP p (l.getD j nilN).mix ∧ (l.getD k nilN).mix = ((afterP p (l.getD j nilN).mix (l.getD k nilN).by_).getD nilM) ∧ robustP p (l.getD k nilN).mix = true
theorem getD_app {α : Type} {l r : List α} {d : α} {k : Nat} (h : k < l.length) : (l ++ r).getD k d = l.getD k d := by
 rw [List.getD_eq_getElem?_getD, List.getD_eq_getElem?_getD, List.getElem?_append_left h]
theorem getD_last {α : Type} {l : List α} {x d : α} : (l ++ [x]).getD l.length d = x := by
 rw [List.getD_eq_getElem?_getD, List.getElem?_append_right (Nat.le_refl _)]
 simp
theorem NodesOK.add {p : Prob} {m0 : MixD} {l : List NodeD} (h : NodesOK p m0 l) {i : Nat} (hi : i < l.length) {s : StepD} (hs : s ∈ stepsP p (l.getD i nilN).mix) (hr : robustP p ((afterP p (l.getD i nilN).mix s).getD nilM) = true) :
    NodesOK p m0 (l ++ [⟨(afterP p (l.getD i nilN).mix s).getD nilM, i, s⟩]) := by
 refine ⟨by simp, by rw [getD_app h.pos]; exact h.first, h.rob, fun k hk hl => ?_⟩
 by_cases e : k < l.length
 ·obtain ⟨j, h1, h2, h3, h4, h5⟩ := h.up k hk e
  exact ⟨j, h1, by rw [getD_app e]; exact h2, by rw [getD_app e, getD_app (by omega)]; exact h3, by rw [getD_app e, getD_app (by omega)]; exact h4, by rw [getD_app e]; exact h5⟩
 ·have : k = l.length := by simp at hl; omega
  subst this
  exact ⟨i, hi, by rw [getD_last], by rw [getD_last, getD_app hi]; exact hs, by rw [getD_last, getD_app hi], by rw [getD_last]; exact hr⟩
end Go.Proofs.YtfnljcallbalgaaGreatDoor

namespace Go.Proofs.YtfnljcallbalgaaGreatDoor
open Go Go.RowKit
set_option linter.unusedSimpArgs false
set_option linter.unusedVariables false
structure CtlD where
 plan : List StepD
 at_ : Int
 phase : Int
 replica : Int
 round : Int
 token : Int
 mix : MixD
deriving DecidableEq
def nilCtl : CtlD := ⟨[], 0, 0, 0, 0, 0, nilM⟩
def ctlRow (c : CtlD) : List D := [.sl 3 (dSteps c.plan), .v (.int .i64 c.at_), .v (.int .i64 c.phase), .v (.int .i64 c.replica), .v (.int .i64 c.round), .v (.int .i64 c.token), .sl 1 (dInts c.mix.base), .sl 1 (dInts c.mix.next), .sl 1 (dSets c.mix.held)]
def ctlC (c : CtlD) : List C := (ctlRow c).map .d
structure SigD where
 kind : Int
 token : Int
 round : Int
 replica : Int
 ver : Int
 pass : Bool
 table : Int
structure EntD where
 kind : Int
 token : Int
 idx : Int
 data : ByteArray
def entRow (e : EntD) : List D := [.v (.int .i64 e.kind), .v (.int .i64 e.token), .v (.int .i64 e.idx), .v (.string e.data)]
def dEnts (l : List EntD) : List (List D) := l.map entRow
def nilE : EntD := ⟨0, 0, 0, ByteArray.empty⟩
structure ActD where
 kind : Int
 ent : EntD
 round : Int
 replica : Int
 ver : Int
 service : Int
 table : Int
def actRow (a : ActD) : List D := [.v (.int .i64 a.kind)] ++ entRow a.ent ++ [.v (.int .i64 a.round), .v (.int .i64 a.replica), .v (.int .i64 a.ver), .v (.int .i64 a.service), .v (.int .i64 a.table)]
def dActs (l : List ActD) : List (List D) := l.map actRow
def w64 (n : Int) : Int := IntKind.i64.wrap n
def replOK (n : Int) : Bool := decide (1 ≤ n ∧ n ≤ 4)
def setErr (p : Prob) (rs : List Int) : Int :=
 if ¬ vpErr p = 0 then vpErr p else if ¬ rs.length = p.vs.length then 6 else if rs.all replOK = false then 7 else 0
def firstR (rs : List Int) (s : Int) : Int := (rs.take s.toNat).sum
def newP (p : Prob) (rs : List Int) (l : List StepD) : CtlD × Int :=
 if ¬ setErr p rs = 0 then (nilCtl, setErr p rs)
 else if checkP p l = false then (nilCtl, 13)
 else (⟨l, 0, if l.length = 0 then 6 else 0, 0, 0, 0, startM p⟩, 0)
def mixesP (p : Prob) (l : List StepD) : List MixD := (runP p (startM p) l).1
def abortM (p : Prob) (m : MixD) (i : Int) : MixD := (afterP p m ⟨4, i, 0⟩).getD nilM
def abortedP (p : Prob) (l : List StepD) (at_ : Int) : MixD := abortM p ((mixesP p l).getD (at_ + 1).toNat nilM) (l.getD at_.toNat nilS).idx
def present (c : CtlD) : StepD := c.plan.getD c.at_.toNat nilS
def bump (c : CtlD) : CtlD := { c with round := w64 (c.round + 1) }
def afterM (p : Prob) (m : MixD) (s : StepD) : MixD := (afterP p m s).getD nilM
def doneC (p : Prob) (c : CtlD) : CtlD :=
 { plan := c.plan, at_ := w64 (c.at_ + 1), phase := if w64 (c.at_ + 1) = c.plan.length then 6 else 0, replica := 0, round := w64 (c.round + 1), token := c.token, mix := if ¬ (present c).kind = 1 then afterM p c.mix (present c) else c.mix }
end Go.Proofs.YtfnljcallbalgaaGreatDoor

namespace Go.Proofs.YtfnljcallbalgaaGreatDoor
open Go Go.RowKit
set_option linter.unusedSimpArgs false
set_option linter.unusedVariables false
def tabC (t : Tab) : List C := [.d (.v (.int .i64 t.kind)), .d (.v (.int .i64 t.frm)), .d (.v (.int .i64 t.tto)), .d (.v (.bool t.aware)), .d (.sl 1 (dMat t.ok)), .d (.sl 1 (dMat t.rw))]
theorem vp_parts {p : Prob} : vpErr p = 0 ↔ (p.vs.length ≤ 6 ∧ p.tabs.length ≤ 12) ∧ (p.now.length = p.vs.length ∧ p.tgt.length = p.vs.length) ∧ rngOK p.vs p.now p.tgt = true ∧ tabsErr p.vs p.tabs = 0 := by
 unfold vpErr
 constructor
 ·intro h
  split at h
  ·cases h
  ·split at h
   ·cases h
   ·split at h
    ·cases h
    ·rename_i h1 h2 h3
     exact ⟨by omega, by omega, by simpa using h3, h⟩
 ·rintro ⟨h1, h2, h3, h4⟩
  rw [if_neg (by omega), if_neg (by omega), if_neg (by simp [h3])]
  exact h4
theorem rngOK_get : ∀ {vs now tgt : List Int}, now.length = vs.length → tgt.length = vs.length → (rngOK vs now tgt = true ↔ ∀ i (h : i < vs.length), (1 ≤ vs[i] ∧ vs[i] ≤ 6) ∧ withinB (now.getD i 0) vs[i] = true ∧ withinB (tgt.getD i 0) vs[i] = true)
 | [], [], [], _, _ => by simp [rngOK]
 | n :: vs, a :: now, b :: tgt, h1, h2 => by
  have ih := rngOK_get (vs := vs) (now := now) (tgt := tgt) (by simpa using h1) (by simpa using h2)
  simp only [rngOK, Bool.and_eq_true, decide_eq_true_eq]
  rw [ih]
  constructor
  ·rintro ⟨⟨⟨k1, k2⟩, k3⟩, k4⟩ i hi
   rcases i with _ | i
   ·exact ⟨k1, by simpa using k2, by simpa using k3⟩
   ·simpa using k4 i (by simpa using hi)
  ·intro h
   have h0 := h 0 (by simp)
   exact ⟨⟨⟨h0.1, by simpa using h0.2.1⟩, by simpa using h0.2.2⟩, fun i hi => h (i + 1) (by simpa using hi)⟩
 | [], _ :: _, _, h, _ => by simp at h
 | [], [], _ :: _, _, h => by simp at h
 | _ :: _, [], _, h, _ => by simp at h
 | _ :: _, _ :: _, [], _, h => by simp at h
theorem tabsErr_zero {vs : List Int} : ∀ {ts : List Tab}, tabsErr vs ts = 0 ↔ ∀ t ∈ ts, tabErr vs t = 0
 | [] => by simp [tabsErr]
 | t :: ts => by
  unfold tabsErr
  constructor
  ·intro h
   split at h
   ·rename_i h1; exact absurd h h1
   ·rename_i h1
    intro u hu
    rcases List.mem_cons.1 hu with rfl | hu
    ·exact Classical.byContradiction h1
    ·exact tabsErr_zero.1 h u hu
  ·intro h
   rw [if_neg (by simpa using h t (by simp))]
   exact tabsErr_zero.2 fun u hu => h u (by simp [hu])
structure LinkD where
 kind : Int
 frm : Int
 tto : Int
 aware : Bool
 bad : Int
 lost : Int
structure DraftD where
 vs : List Int
 now : List Int
 tgt : List Int
 links : List LinkD
def u8s (xs : List Int) : Prop := ∀ x ∈ xs, 0 ≤ x ∧ x < 256
end Go.Proofs.YtfnljcallbalgaaGreatDoor

namespace Go.Proofs.YtfnljcallbalgaaGreatDoor
open Go Go.RowKit
set_option linter.unusedSimpArgs false
set_option linter.unusedVariables false
def nilA : ActD := ⟨0, nilE, 0, 0, 0, 0, 0⟩
def nilG : SigD := ⟨0, 0, 0, 0, 0, false, 0⟩
def sigRow (s : SigD) : List D := [.v (.int .i64 s.kind), .v (.int .i64 s.token), .v (.int .i64 s.round), .v (.int .i64 s.replica), .v (.int .i64 s.ver), .v (.bool s.pass), .v (.int .i64 s.table)]
def dSigs (l : List SigD) : List (List D) := l.map sigRow
structure RepD where
 svc : Int
 ver : Int
 up : Bool
 rnd : Int
def repRow (r : RepD) : List D := [.v (.int .i64 r.svc), .v (.int .i64 r.ver), .v (.bool r.up), .v (.int .i64 r.rnd)]
def dReps (l : List RepD) : List (List D) := l.map repRow
def dCtls (l : List CtlD) : List (List D) := l.map ctlRow
theorem rowsG {α : Type} {f : α → List D} {xs : List α} {n : Int} (d : α) (h : 0 ≤ n ∧ n < xs.length) : 0 ≤ n ∧ (xs.map f)[n.toNat]? = some (f (xs.getD n.toNat d)) := ⟨h.1, row_get h⟩
theorem rowsN {α : Type} {f : α → List D} {xs : List α} {n : Nat} (d : α) (h : n < xs.length) : (xs.map f)[n]? = some (f (xs.getD n d)) := row_getN h
theorem rowsZ {α : Type} {f : α → List D} {xs : List α} {n : Int} (d : α) (h : 0 ≤ n ∧ n < xs.length) : (xs.map f)[n.toNat]? = some (f (xs.getD n.toNat d)) := row_get h
theorem gInts {xs : List (Int)} {n : Int} (h : 0 ≤ n ∧ n < xs.length) : 0 ≤ n ∧ (dInts xs)[n.toNat]? = some ([.v (.int .i64 (xs.getD n.toNat 0))]) := rowsG 0 h
theorem gIntsN {xs : List (Int)} {k : Nat} (h : k < xs.length) : 0 ≤ (k : Int) ∧ (dInts xs)[(k : Int).toNat]? = some ([.v (.int .i64 (xs.getD k 0))]) := ⟨Int.natCast_nonneg k, rowsN 0 h⟩
theorem zInts {xs : List (Int)} {n : Int} (h : 0 ≤ n ∧ n < xs.length) : (dInts xs)[n.toNat]? = some ([.v (.int .i64 (xs.getD n.toNat 0))]) := rowsZ 0 h
theorem lInts {xs : List (Int)} : (dInts xs).length = xs.length := List.length_map _
theorem aInts {xs ys : List (Int)} : dInts xs ++ dInts ys = dInts (xs ++ ys) := List.map_append.symm
theorem nInts {xs : List (Int)} {a b : Nat} : ((dInts xs).drop a).take b = dInts ((xs.drop a).take b) := by unfold dInts; rw [List.map_take, List.map_drop]
theorem sInts {xs : List (Int)} {x : Int} : dInts xs ++ [[.v (.int .i64 x)]] = dInts (xs ++ [x]) := aInts (ys := [x])
theorem oInts {x : Int} : [[.v (.int .i64 x)]] = dInts [x] := rfl
theorem wInts {xs : List (Int)} {j : Nat} {x : Int} : (dInts xs).set j ([.v (.int .i64 x)]) = dInts (xs.set j x) := List.map_set.symm
theorem rInts {n : Nat} {x : Int} : List.replicate n ([.v (.int .i64 x)]) = dInts (List.replicate n x) := by unfold dInts; rw [List.map_replicate]
theorem gSets {xs : List (Int)} {n : Int} (h : 0 ≤ n ∧ n < xs.length) : 0 ≤ n ∧ (dSets xs)[n.toNat]? = some ([.v (.int .u8 (xs.getD n.toNat 0))]) := rowsG 0 h
theorem gSetsN {xs : List (Int)} {k : Nat} (h : k < xs.length) : 0 ≤ (k : Int) ∧ (dSets xs)[(k : Int).toNat]? = some ([.v (.int .u8 (xs.getD k 0))]) := ⟨Int.natCast_nonneg k, rowsN 0 h⟩
theorem zSets {xs : List (Int)} {n : Int} (h : 0 ≤ n ∧ n < xs.length) : (dSets xs)[n.toNat]? = some ([.v (.int .u8 (xs.getD n.toNat 0))]) := rowsZ 0 h
theorem lSets {xs : List (Int)} : (dSets xs).length = xs.length := List.length_map _
theorem aSets {xs ys : List (Int)} : dSets xs ++ dSets ys = dSets (xs ++ ys) := List.map_append.symm
theorem sSets {xs : List (Int)} {x : Int} : dSets xs ++ [[.v (.int .u8 x)]] = dSets (xs ++ [x]) := aSets (ys := [x])
theorem oSets {x : Int} : [[.v (.int .u8 x)]] = dSets [x] := rfl
theorem wSets {xs : List (Int)} {j : Nat} {x : Int} : (dSets xs).set j ([.v (.int .u8 x)]) = dSets (xs.set j x) := List.map_set.symm
theorem rSets {n : Nat} {x : Int} : List.replicate n ([.v (.int .u8 x)]) = dSets (List.replicate n x) := by unfold dSets; rw [List.map_replicate]
theorem gBools {xs : List (Bool)} {n : Int} (h : 0 ≤ n ∧ n < xs.length) : 0 ≤ n ∧ (dBools xs)[n.toNat]? = some ([.v (.bool (xs.getD n.toNat false))]) := rowsG false h
theorem gBoolsN {xs : List (Bool)} {k : Nat} (h : k < xs.length) : 0 ≤ (k : Int) ∧ (dBools xs)[(k : Int).toNat]? = some ([.v (.bool (xs.getD k false))]) := ⟨Int.natCast_nonneg k, rowsN false h⟩
theorem zBools {xs : List (Bool)} {n : Int} (h : 0 ≤ n ∧ n < xs.length) : (dBools xs)[n.toNat]? = some ([.v (.bool (xs.getD n.toNat false))]) := rowsZ false h
theorem lBools {xs : List (Bool)} : (dBools xs).length = xs.length := List.length_map _
theorem wBools {xs : List (Bool)} {j : Nat} {x : Bool} : (dBools xs).set j ([.v (.bool x)]) = dBools (xs.set j x) := List.map_set.symm
theorem gMat {xs : List (List Bool)} {n : Int} (h : 0 ≤ n ∧ n < xs.length) : 0 ≤ n ∧ (dMat xs)[n.toNat]? = some ([.sl 1 (dBools (xs.getD n.toNat []))]) := rowsG [] h
theorem gMatN {xs : List (List Bool)} {k : Nat} (h : k < xs.length) : 0 ≤ (k : Int) ∧ (dMat xs)[(k : Int).toNat]? = some ([.sl 1 (dBools (xs.getD k []))]) := ⟨Int.natCast_nonneg k, rowsN [] h⟩
theorem zMat {xs : List (List Bool)} {n : Int} (h : 0 ≤ n ∧ n < xs.length) : (dMat xs)[n.toNat]? = some ([.sl 1 (dBools (xs.getD n.toNat []))]) := rowsZ [] h
theorem lMat {xs : List (List Bool)} : (dMat xs).length = xs.length := List.length_map _
theorem wMat {xs : List (List Bool)} {j : Nat} {x : List Bool} : (dMat xs).set j ([.sl 1 (dBools x)]) = dMat (xs.set j x) := List.map_set.symm
theorem gTabs {xs : List (Tab)} {n : Int} (h : 0 ≤ n ∧ n < xs.length) : 0 ≤ n ∧ (dTabs xs)[n.toNat]? = some (tabRow (xs.getD n.toNat nilT)) := rowsG nilT h
theorem gTabsN {xs : List (Tab)} {k : Nat} (h : k < xs.length) : 0 ≤ (k : Int) ∧ (dTabs xs)[(k : Int).toNat]? = some (tabRow (xs.getD k nilT)) := ⟨Int.natCast_nonneg k, rowsN nilT h⟩
theorem zTabs {xs : List (Tab)} {n : Int} (h : 0 ≤ n ∧ n < xs.length) : (dTabs xs)[n.toNat]? = some (tabRow (xs.getD n.toNat nilT)) := rowsZ nilT h
theorem lTabs {xs : List (Tab)} : (dTabs xs).length = xs.length := List.length_map _
theorem wTabs {xs : List (Tab)} {j : Nat} {x : Tab} : (dTabs xs).set j (tabRow x) = dTabs (xs.set j x) := List.map_set.symm
theorem gMixes {xs : List (MixD)} {n : Int} (h : 0 ≤ n ∧ n < xs.length) : 0 ≤ n ∧ (dMixes xs)[n.toNat]? = some (mixRow (xs.getD n.toNat nilM)) := rowsG nilM h
theorem gMixesN {xs : List (MixD)} {k : Nat} (h : k < xs.length) : 0 ≤ (k : Int) ∧ (dMixes xs)[(k : Int).toNat]? = some (mixRow (xs.getD k nilM)) := ⟨Int.natCast_nonneg k, rowsN nilM h⟩
theorem zMixes {xs : List (MixD)} {n : Int} (h : 0 ≤ n ∧ n < xs.length) : (dMixes xs)[n.toNat]? = some (mixRow (xs.getD n.toNat nilM)) := rowsZ nilM h
theorem lMixes {xs : List (MixD)} : (dMixes xs).length = xs.length := List.length_map _
theorem aMixes {xs ys : List (MixD)} : dMixes xs ++ dMixes ys = dMixes (xs ++ ys) := List.map_append.symm
theorem sMixes {xs : List (MixD)} {x : MixD} : dMixes xs ++ [mixRow x] = dMixes (xs ++ [x]) := aMixes (ys := [x])
theorem wMixes {xs : List (MixD)} {j : Nat} {x : MixD} : (dMixes xs).set j (mixRow x) = dMixes (xs.set j x) := List.map_set.symm
theorem gSteps {xs : List (StepD)} {n : Int} (h : 0 ≤ n ∧ n < xs.length) : 0 ≤ n ∧ (dSteps xs)[n.toNat]? = some (stepRow (xs.getD n.toNat nilS)) := rowsG nilS h
theorem gStepsN {xs : List (StepD)} {k : Nat} (h : k < xs.length) : 0 ≤ (k : Int) ∧ (dSteps xs)[(k : Int).toNat]? = some (stepRow (xs.getD k nilS)) := ⟨Int.natCast_nonneg k, rowsN nilS h⟩
theorem zSteps {xs : List (StepD)} {n : Int} (h : 0 ≤ n ∧ n < xs.length) : (dSteps xs)[n.toNat]? = some (stepRow (xs.getD n.toNat nilS)) := rowsZ nilS h
theorem lSteps {xs : List (StepD)} : (dSteps xs).length = xs.length := List.length_map _
theorem aSteps {xs ys : List (StepD)} : dSteps xs ++ dSteps ys = dSteps (xs ++ ys) := List.map_append.symm
theorem sSteps {xs : List (StepD)} {x : StepD} : dSteps xs ++ [stepRow x] = dSteps (xs ++ [x]) := aSteps (ys := [x])
theorem wSteps {xs : List (StepD)} {j : Nat} {x : StepD} : (dSteps xs).set j (stepRow x) = dSteps (xs.set j x) := List.map_set.symm
theorem lNodes {xs : List (NodeD)} : (dNodes xs).length = xs.length := List.length_map _
theorem gConfs {xs : List (ConfD)} {n : Int} (h : 0 ≤ n ∧ n < xs.length) : 0 ≤ n ∧ (dConfs xs)[n.toNat]? = some (confRow (xs.getD n.toNat nilC)) := rowsG nilC h
theorem gConfsN {xs : List (ConfD)} {k : Nat} (h : k < xs.length) : 0 ≤ (k : Int) ∧ (dConfs xs)[(k : Int).toNat]? = some (confRow (xs.getD k nilC)) := ⟨Int.natCast_nonneg k, rowsN nilC h⟩
theorem zConfs {xs : List (ConfD)} {n : Int} (h : 0 ≤ n ∧ n < xs.length) : (dConfs xs)[n.toNat]? = some (confRow (xs.getD n.toNat nilC)) := rowsZ nilC h
theorem lConfs {xs : List (ConfD)} : (dConfs xs).length = xs.length := List.length_map _
theorem aConfs {xs ys : List (ConfD)} : dConfs xs ++ dConfs ys = dConfs (xs ++ ys) := List.map_append.symm
theorem sConfs {xs : List (ConfD)} {x : ConfD} : dConfs xs ++ [confRow x] = dConfs (xs ++ [x]) := aConfs (ys := [x])
theorem wConfs {xs : List (ConfD)} {j : Nat} {x : ConfD} : (dConfs xs).set j (confRow x) = dConfs (xs.set j x) := List.map_set.symm
theorem gEnts {xs : List (EntD)} {n : Int} (h : 0 ≤ n ∧ n < xs.length) : 0 ≤ n ∧ (dEnts xs)[n.toNat]? = some (entRow (xs.getD n.toNat nilE)) := rowsG nilE h
theorem gEntsN {xs : List (EntD)} {k : Nat} (h : k < xs.length) : 0 ≤ (k : Int) ∧ (dEnts xs)[(k : Int).toNat]? = some (entRow (xs.getD k nilE)) := ⟨Int.natCast_nonneg k, rowsN nilE h⟩
theorem zEnts {xs : List (EntD)} {n : Int} (h : 0 ≤ n ∧ n < xs.length) : (dEnts xs)[n.toNat]? = some (entRow (xs.getD n.toNat nilE)) := rowsZ nilE h
theorem lEnts {xs : List (EntD)} : (dEnts xs).length = xs.length := List.length_map _
theorem aEnts {xs ys : List (EntD)} : dEnts xs ++ dEnts ys = dEnts (xs ++ ys) := List.map_append.symm
theorem sEnts {xs : List (EntD)} {x : EntD} : dEnts xs ++ [entRow x] = dEnts (xs ++ [x]) := aEnts (ys := [x])
theorem wEnts {xs : List (EntD)} {j : Nat} {x : EntD} : (dEnts xs).set j (entRow x) = dEnts (xs.set j x) := List.map_set.symm
theorem zActs {xs : List (ActD)} {n : Int} (h : 0 ≤ n ∧ n < xs.length) : (dActs xs)[n.toNat]? = some (actRow (xs.getD n.toNat nilA)) := rowsZ nilA h
theorem lActs {xs : List (ActD)} : (dActs xs).length = xs.length := List.length_map _
theorem aActs {xs ys : List (ActD)} : dActs xs ++ dActs ys = dActs (xs ++ ys) := List.map_append.symm
theorem wActs {xs : List (ActD)} {j : Nat} {x : ActD} : (dActs xs).set j (actRow x) = dActs (xs.set j x) := List.map_set.symm
theorem lCtls {xs : List (CtlD)} : (dCtls xs).length = xs.length := List.length_map _
theorem gSigs {xs : List (SigD)} {n : Int} (h : 0 ≤ n ∧ n < xs.length) : 0 ≤ n ∧ (dSigs xs)[n.toNat]? = some (sigRow (xs.getD n.toNat nilG)) := rowsG nilG h
theorem gSigsN {xs : List (SigD)} {k : Nat} (h : k < xs.length) : 0 ≤ (k : Int) ∧ (dSigs xs)[(k : Int).toNat]? = some (sigRow (xs.getD k nilG)) := ⟨Int.natCast_nonneg k, rowsN nilG h⟩
theorem zSigs {xs : List (SigD)} {n : Int} (h : 0 ≤ n ∧ n < xs.length) : (dSigs xs)[n.toNat]? = some (sigRow (xs.getD n.toNat nilG)) := rowsZ nilG h
theorem lSigs {xs : List (SigD)} : (dSigs xs).length = xs.length := List.length_map _
theorem wSigs {xs : List (SigD)} {j : Nat} {x : SigD} : (dSigs xs).set j (sigRow x) = dSigs (xs.set j x) := List.map_set.symm
theorem lReps {xs : List (RepD)} : (dReps xs).length = xs.length := List.length_map _
theorem aReps {xs ys : List (RepD)} : dReps xs ++ dReps ys = dReps (xs ++ ys) := List.map_append.symm
theorem sReps {xs : List (RepD)} {x : RepD} : dReps xs ++ [repRow x] = dReps (xs ++ [x]) := aReps (ys := [x])
theorem sRepsC {xs : List RepD} {a b : Int} {u : Bool} {c : Int} : dReps xs ++ [[.v (.int .i64 a), .v (.int .i64 b), .v (.bool u), .v (.int .i64 c)]] = dReps (xs ++ [⟨a, b, u, c⟩]) := sReps (x := ⟨a, b, u, c⟩)
theorem sStepsC {xs : List StepD} {a b c : Int} : dSteps xs ++ [[.v (.int .i64 a), .v (.int .i64 b), .v (.int .i64 c)]] = dSteps (xs ++ [⟨a, b, c⟩]) := sSteps (x := ⟨a, b, c⟩)
theorem sConfsC {xs : List ConfD} {a b c : Int} : dConfs xs ++ [[.v (.int .i64 a), .v (.int .i64 b), .v (.int .i64 c)]] = dConfs (xs ++ [⟨a, b, c⟩]) := sConfs (x := ⟨a, b, c⟩)
theorem sMixesC {xs : List MixD} {a b c : List Int} : dMixes xs ++ [[.sl 1 (dInts a), .sl 1 (dInts b), .sl 1 (dSets c)]] = dMixes (xs ++ [⟨a, b, c⟩]) := sMixes (x := ⟨a, b, c⟩)
theorem sEntsC {xs : List EntD} {a b c : Int} {d : ByteArray} : dEnts xs ++ [[.v (.int .i64 a), .v (.int .i64 b), .v (.int .i64 c), .v (.string d)]] = dEnts (xs ++ [⟨a, b, c, d⟩]) := sEnts (x := ⟨a, b, c, d⟩)
end Go.Proofs.YtfnljcallbalgaaGreatDoor

namespace Go.Proofs.YtfnljcallbalgaaGreatDoor
open Go Go.RowKit
class FdC (s : TypeId) (f : Nat) (off : outParam Nat) (l : outParam (Option Nat)) : Prop where
 h : FdI Tryz.prog s f off l
class LdC (t : TypeId) : Prop where
 h : LdI Tryz.prog t none
class LdA (t : TypeId) (n : Nat) : Prop where
 h : LdI Tryz.prog t (some n)
class SzC (t : TypeId) (n : outParam Nat) : Prop where
 h : SzI Tryz.prog t n
class BoC (g : FuncId) : Prop where
 h : BoI Tryz.prog g
instance bo4 : BoC 4 := ⟨⟨by kernel_rfl⟩⟩
instance bo5 : BoC 5 := ⟨⟨by kernel_rfl⟩⟩
instance bo6 : BoC 6 := ⟨⟨by kernel_rfl⟩⟩
instance bo7 : BoC 7 := ⟨⟨by kernel_rfl⟩⟩
instance bo8 : BoC 8 := ⟨⟨by kernel_rfl⟩⟩
instance bo9 : BoC 9 := ⟨⟨by kernel_rfl⟩⟩
instance bo10 : BoC 10 := ⟨⟨by kernel_rfl⟩⟩
instance bo11 : BoC 11 := ⟨⟨by kernel_rfl⟩⟩
instance bo15 : BoC 15 := ⟨⟨by kernel_rfl⟩⟩
instance bo16 : BoC 16 := ⟨⟨by kernel_rfl⟩⟩
instance bo17 : BoC 17 := ⟨⟨by kernel_rfl⟩⟩
instance bo18 : BoC 18 := ⟨⟨by kernel_rfl⟩⟩
instance bo19 : BoC 19 := ⟨⟨by kernel_rfl⟩⟩
instance bo20 : BoC 20 := ⟨⟨by kernel_rfl⟩⟩
instance bo21 : BoC 21 := ⟨⟨by kernel_rfl⟩⟩
instance bo22 : BoC 22 := ⟨⟨by kernel_rfl⟩⟩
instance bo23 : BoC 23 := ⟨⟨by kernel_rfl⟩⟩
instance bo24 : BoC 24 := ⟨⟨by kernel_rfl⟩⟩
instance bo25 : BoC 25 := ⟨⟨by kernel_rfl⟩⟩
instance bo48 : BoC 48 := ⟨⟨by kernel_rfl⟩⟩
instance bo49 : BoC 49 := ⟨⟨by kernel_rfl⟩⟩
instance bo50 : BoC 50 := ⟨⟨by kernel_rfl⟩⟩
instance bo51 : BoC 51 := ⟨⟨by kernel_rfl⟩⟩
instance bo52 : BoC 52 := ⟨⟨by kernel_rfl⟩⟩
instance bo53 : BoC 53 := ⟨⟨by kernel_rfl⟩⟩
instance bo54 : BoC 54 := ⟨⟨by kernel_rfl⟩⟩
instance bo55 : BoC 55 := ⟨⟨by kernel_rfl⟩⟩
instance bo56 : BoC 56 := ⟨⟨by kernel_rfl⟩⟩
instance bo57 : BoC 57 := ⟨⟨by kernel_rfl⟩⟩
instance bo63 : BoC 63 := ⟨⟨by kernel_rfl⟩⟩
instance bo64 : BoC 64 := ⟨⟨by kernel_rfl⟩⟩
instance bo75 : BoC 75 := ⟨⟨by kernel_rfl⟩⟩
instance bo92 : BoC 92 := ⟨⟨by kernel_rfl⟩⟩
instance bo93 : BoC 93 := ⟨⟨by kernel_rfl⟩⟩
instance bo94 : BoC 94 := ⟨⟨by kernel_rfl⟩⟩
instance bo95 : BoC 95 := ⟨⟨by kernel_rfl⟩⟩
instance bo96 : BoC 96 := ⟨⟨by kernel_rfl⟩⟩
instance bo97 : BoC 97 := ⟨⟨by kernel_rfl⟩⟩
instance bo114 : BoC 114 := ⟨⟨by kernel_rfl⟩⟩
instance bo115 : BoC 115 := ⟨⟨by kernel_rfl⟩⟩
instance bo116 : BoC 116 := ⟨⟨by kernel_rfl⟩⟩
instance bo138 : BoC 138 := ⟨⟨by kernel_rfl⟩⟩
instance bo139 : BoC 139 := ⟨⟨by kernel_rfl⟩⟩
instance bo140 : BoC 140 := ⟨⟨by kernel_rfl⟩⟩
instance bo141 : BoC 141 := ⟨⟨by kernel_rfl⟩⟩
instance bo143 : BoC 143 := ⟨⟨by kernel_rfl⟩⟩
instance bo144 : BoC 144 := ⟨⟨by kernel_rfl⟩⟩
instance bo145 : BoC 145 := ⟨⟨by kernel_rfl⟩⟩
instance bo148 : BoC 148 := ⟨⟨by kernel_rfl⟩⟩
instance bo149 : BoC 149 := ⟨⟨by kernel_rfl⟩⟩
instance bo178 : BoC 178 := ⟨⟨by kernel_rfl⟩⟩
instance bo179 : BoC 179 := ⟨⟨by kernel_rfl⟩⟩
instance bo199 : BoC 199 := ⟨⟨by kernel_rfl⟩⟩
instance bo200 : BoC 200 := ⟨⟨by kernel_rfl⟩⟩
instance bo201 : BoC 201 := ⟨⟨by kernel_rfl⟩⟩
instance bo202 : BoC 202 := ⟨⟨by kernel_rfl⟩⟩
instance bo203 : BoC 203 := ⟨⟨by kernel_rfl⟩⟩
instance bo204 : BoC 204 := ⟨⟨by kernel_rfl⟩⟩
instance bo205 : BoC 205 := ⟨⟨by kernel_rfl⟩⟩
instance bo206 : BoC 206 := ⟨⟨by kernel_rfl⟩⟩
instance bo207 : BoC 207 := ⟨⟨by kernel_rfl⟩⟩
instance bo208 : BoC 208 := ⟨⟨by kernel_rfl⟩⟩
instance bo209 : BoC 209 := ⟨⟨by kernel_rfl⟩⟩
instance bo231 : BoC 231 := ⟨⟨by kernel_rfl⟩⟩
instance bo241 : BoC 241 := ⟨⟨by kernel_rfl⟩⟩
instance bo263 : BoC 263 := ⟨⟨by kernel_rfl⟩⟩
instance bo264 : BoC 264 := ⟨⟨by kernel_rfl⟩⟩
instance bo265 : BoC 265 := ⟨⟨by kernel_rfl⟩⟩
instance bo266 : BoC 266 := ⟨⟨by kernel_rfl⟩⟩
instance bo267 : BoC 267 := ⟨⟨by kernel_rfl⟩⟩
instance bo268 : BoC 268 := ⟨⟨by kernel_rfl⟩⟩
instance bo269 : BoC 269 := ⟨⟨by kernel_rfl⟩⟩
instance bo270 : BoC 270 := ⟨⟨by kernel_rfl⟩⟩
instance bo272 : BoC 272 := ⟨⟨by kernel_rfl⟩⟩
instance bo273 : BoC 273 := ⟨⟨by kernel_rfl⟩⟩
instance bo274 : BoC 274 := ⟨⟨by kernel_rfl⟩⟩
instance bo275 : BoC 275 := ⟨⟨by kernel_rfl⟩⟩
instance bo276 : BoC 276 := ⟨⟨by kernel_rfl⟩⟩
instance bo277 : BoC 277 := ⟨⟨by kernel_rfl⟩⟩
instance bo294 : BoC 294 := ⟨⟨by kernel_rfl⟩⟩
instance bo301 : BoC 301 := ⟨⟨by kernel_rfl⟩⟩
instance bo309 : BoC 309 := ⟨⟨by kernel_rfl⟩⟩
instance bo310 : BoC 310 := ⟨⟨by kernel_rfl⟩⟩
instance bo311 : BoC 311 := ⟨⟨by kernel_rfl⟩⟩
instance bo312 : BoC 312 := ⟨⟨by kernel_rfl⟩⟩
instance bo313 : BoC 313 := ⟨⟨by kernel_rfl⟩⟩
instance bo314 : BoC 314 := ⟨⟨by kernel_rfl⟩⟩
instance bo315 : BoC 315 := ⟨⟨by kernel_rfl⟩⟩
instance bo318 : BoC 318 := ⟨⟨by kernel_rfl⟩⟩
instance bo325 : BoC 325 := ⟨⟨by kernel_rfl⟩⟩
instance bo326 : BoC 326 := ⟨⟨by kernel_rfl⟩⟩
instance bo329 : BoC 329 := ⟨⟨by kernel_rfl⟩⟩
instance bo330 : BoC 330 := ⟨⟨by kernel_rfl⟩⟩
instance bo331 : BoC 331 := ⟨⟨by kernel_rfl⟩⟩
instance bo333 : BoC 333 := ⟨⟨by kernel_rfl⟩⟩
instance bo334 : BoC 334 := ⟨⟨by kernel_rfl⟩⟩
instance bo335 : BoC 335 := ⟨⟨by kernel_rfl⟩⟩
instance bo336 : BoC 336 := ⟨⟨by kernel_rfl⟩⟩
instance bo337 : BoC 337 := ⟨⟨by kernel_rfl⟩⟩
instance bo338 : BoC 338 := ⟨⟨by kernel_rfl⟩⟩
instance bo339 : BoC 339 := ⟨⟨by kernel_rfl⟩⟩
instance bo340 : BoC 340 := ⟨⟨by kernel_rfl⟩⟩
instance bo341 : BoC 341 := ⟨⟨by kernel_rfl⟩⟩
instance bo342 : BoC 342 := ⟨⟨by kernel_rfl⟩⟩
instance bo343 : BoC 343 := ⟨⟨by kernel_rfl⟩⟩
instance bo344 : BoC 344 := ⟨⟨by kernel_rfl⟩⟩
instance bo345 : BoC 345 := ⟨⟨by kernel_rfl⟩⟩
instance bo346 : BoC 346 := ⟨⟨by kernel_rfl⟩⟩
instance bo347 : BoC 347 := ⟨⟨by kernel_rfl⟩⟩
instance bo348 : BoC 348 := ⟨⟨by kernel_rfl⟩⟩
instance bo349 : BoC 349 := ⟨⟨by kernel_rfl⟩⟩
instance bo350 : BoC 350 := ⟨⟨by kernel_rfl⟩⟩
instance bo351 : BoC 351 := ⟨⟨by kernel_rfl⟩⟩
instance bo352 : BoC 352 := ⟨⟨by kernel_rfl⟩⟩
instance bo353 : BoC 353 := ⟨⟨by kernel_rfl⟩⟩
instance bo354 : BoC 354 := ⟨⟨by kernel_rfl⟩⟩
instance bo355 : BoC 355 := ⟨⟨by kernel_rfl⟩⟩
instance bo356 : BoC 356 := ⟨⟨by kernel_rfl⟩⟩
instance bo357 : BoC 357 := ⟨⟨by kernel_rfl⟩⟩
instance bo358 : BoC 358 := ⟨⟨by kernel_rfl⟩⟩
instance bo359 : BoC 359 := ⟨⟨by kernel_rfl⟩⟩
instance bo360 : BoC 360 := ⟨⟨by kernel_rfl⟩⟩
instance bo361 : BoC 361 := ⟨⟨by kernel_rfl⟩⟩
instance bo362 : BoC 362 := ⟨⟨by kernel_rfl⟩⟩
theorem ef22 : EfI Tryz.prog 22 3 1 8 [.d (.v (.int .i64 0))] := ⟨by kernel_rfl⟩
theorem ef26 : EfI Tryz.prog 26 104 3 24 [.d (.v (.int .i64 0)), .d (.v (.int .i64 0)), .d (.v (.int .i64 0))] := ⟨by kernel_rfl⟩
theorem ef29 : EfI Tryz.prog 29 5 1 1 [.d (.v (.int .u8 0))] := ⟨by kernel_rfl⟩
theorem ef55 : EfI Tryz.prog 55 183 1 1 [.d (.v (.int .u8 0))] := ⟨by kernel_rfl⟩
theorem ef62 : EfI Tryz.prog 62 138 4 32 [.d (.v (.int .i64 0)), .d (.v (.int .i64 0)), .d (.v (.bool false)), .d (.v (.int .i64 0))] := ⟨by kernel_rfl⟩
theorem ef70 : EfI Tryz.prog 70 76 3 40 [.zero, .d (.v (.int .i64 0)), .d (.v (.int .i64 0))] := ⟨by kernel_rfl⟩
theorem ef71 : EfI Tryz.prog 71 2 1 8 [.d (.v (.int .i64 0))] := ⟨by kernel_rfl⟩
theorem ef80 : EfI Tryz.prog 80 29 1 24 [.zero] := ⟨by kernel_rfl⟩
theorem ef239 : EfI Tryz.prog 239 286 4 40 [.d (.v (.int .i64 0)), .d (.v (.int .i64 0)), .d (.v (.int .i64 0)), .d (.v (.string ByteArray.empty))] := ⟨by kernel_rfl⟩
theorem ef278 : EfI Tryz.prog 278 57 3 72 [.zero, .zero, .zero] := ⟨by kernel_rfl⟩
theorem ef281 : EfI Tryz.prog 281 180 3 24 [.d (.v (.int .i64 0)), .d (.v (.int .i64 0)), .d (.v (.int .i64 0))] := ⟨by kernel_rfl⟩
theorem ef299 : EfI Tryz.prog 299 303 10 88 [.d (.v (.int .i64 0)), .d (.v (.int .i64 0)), .d (.v (.int .i64 0)), .d (.v (.int .i64 0)), .d (.v (.string ByteArray.empty)), .d (.v (.int .i64 0)), .d (.v (.int .i64 0)), .d (.v (.int .i64 0)), .d (.v (.int .i64 0)), .d (.v (.int .i64 0))] := ⟨by kernel_rfl⟩
theorem ef399 : EfI Tryz.prog 399 245 7 56 [.d (.v (.int .i64 0)), .d (.v (.int .i64 0)), .d (.v (.int .i64 0)), .d (.v (.int .i64 0)), .d (.v (.int .i64 0)), .d (.v (.bool false)), .d (.v (.int .i64 0))] := ⟨by kernel_rfl⟩
theorem el22 : ElI Tryz.prog 22 1 := ⟨by kernel_rfl⟩
theorem el23 : ElI Tryz.prog 23 6 := ⟨by kernel_rfl⟩
theorem el26 : ElI Tryz.prog 26 3 := ⟨by kernel_rfl⟩
theorem el29 : ElI Tryz.prog 29 1 := ⟨by kernel_rfl⟩
theorem el40 : ElI Tryz.prog 40 11 := ⟨by kernel_rfl⟩
theorem el55 : ElI Tryz.prog 55 1 := ⟨by kernel_rfl⟩
theorem el62 : ElI Tryz.prog 62 4 := ⟨by kernel_rfl⟩
theorem el80 : ElI Tryz.prog 80 1 := ⟨by kernel_rfl⟩
theorem el128 : ElI Tryz.prog 128 1 := ⟨by kernel_rfl⟩
theorem el131 : ElI Tryz.prog 131 1 := ⟨by kernel_rfl⟩
theorem el239 : ElI Tryz.prog 239 4 := ⟨by kernel_rfl⟩
theorem el278 : ElI Tryz.prog 278 3 := ⟨by kernel_rfl⟩
theorem el281 : ElI Tryz.prog 281 3 := ⟨by kernel_rfl⟩
theorem el399 : ElI Tryz.prog 399 7 := ⟨by kernel_rfl⟩
instance fd25_0 : FdC 25 0 0 none := ⟨⟨by kernel_rfl⟩⟩
instance fd25_1 : FdC 25 1 1 none := ⟨⟨by kernel_rfl⟩⟩
instance fd25_2 : FdC 25 2 2 none := ⟨⟨by kernel_rfl⟩⟩
instance fd25_3 : FdC 25 3 3 none := ⟨⟨by kernel_rfl⟩⟩
instance fd28_0 : FdC 28 0 0 (some 4) := ⟨⟨by kernel_rfl⟩⟩
instance fd28_1 : FdC 28 1 4 none := ⟨⟨by kernel_rfl⟩⟩
instance fd28_2 : FdC 28 2 5 none := ⟨⟨by kernel_rfl⟩⟩
instance fd28_3 : FdC 28 3 6 none := ⟨⟨by kernel_rfl⟩⟩
instance fd31_0 : FdC 31 0 0 (some 7) := ⟨⟨by kernel_rfl⟩⟩
instance fd31_1 : FdC 31 1 7 none := ⟨⟨by kernel_rfl⟩⟩
instance fd57_0 : FdC 57 0 0 none := ⟨⟨by kernel_rfl⟩⟩
instance fd57_1 : FdC 57 1 1 none := ⟨⟨by kernel_rfl⟩⟩
instance fd57_2 : FdC 57 2 2 none := ⟨⟨by kernel_rfl⟩⟩
instance fd59_0 : FdC 59 0 0 none := ⟨⟨by kernel_rfl⟩⟩
instance fd59_1 : FdC 59 1 1 none := ⟨⟨by kernel_rfl⟩⟩
instance fd59_2 : FdC 59 2 2 none := ⟨⟨by kernel_rfl⟩⟩
instance fd59_3 : FdC 59 3 3 none := ⟨⟨by kernel_rfl⟩⟩
instance fd59_4 : FdC 59 4 4 none := ⟨⟨by kernel_rfl⟩⟩
instance fd59_5 : FdC 59 5 5 none := ⟨⟨by kernel_rfl⟩⟩
instance fd59_6 : FdC 59 6 6 (some 3) := ⟨⟨by kernel_rfl⟩⟩
instance fd73_9 : FdC 73 9 35 none := ⟨⟨by kernel_rfl⟩⟩
instance fd73_10 : FdC 73 10 36 none := ⟨⟨by kernel_rfl⟩⟩
instance fd90_1 : FdC 90 1 1 none := ⟨⟨by kernel_rfl⟩⟩
instance fd90_2 : FdC 90 2 2 none := ⟨⟨by kernel_rfl⟩⟩
instance fd104_0 : FdC 104 0 0 none := ⟨⟨by kernel_rfl⟩⟩
instance fd104_1 : FdC 104 1 1 none := ⟨⟨by kernel_rfl⟩⟩
instance fd104_2 : FdC 104 2 2 none := ⟨⟨by kernel_rfl⟩⟩
instance fd130_0 : FdC 130 0 0 none := ⟨⟨by kernel_rfl⟩⟩
instance fd130_1 : FdC 130 1 1 none := ⟨⟨by kernel_rfl⟩⟩
instance fd130_2 : FdC 130 2 2 none := ⟨⟨by kernel_rfl⟩⟩
instance fd130_3 : FdC 130 3 3 none := ⟨⟨by kernel_rfl⟩⟩
instance fd130_4 : FdC 130 4 4 none := ⟨⟨by kernel_rfl⟩⟩
instance fd130_5 : FdC 130 5 5 none := ⟨⟨by kernel_rfl⟩⟩
instance fd143_9 : FdC 143 9 35 none := ⟨⟨by kernel_rfl⟩⟩
instance fd143_10 : FdC 143 10 36 none := ⟨⟨by kernel_rfl⟩⟩
instance fd245_0 : FdC 245 0 0 none := ⟨⟨by kernel_rfl⟩⟩
instance fd245_1 : FdC 245 1 1 none := ⟨⟨by kernel_rfl⟩⟩
instance fd245_2 : FdC 245 2 2 none := ⟨⟨by kernel_rfl⟩⟩
instance fd245_3 : FdC 245 3 3 none := ⟨⟨by kernel_rfl⟩⟩
instance fd245_4 : FdC 245 4 4 none := ⟨⟨by kernel_rfl⟩⟩
instance fd245_5 : FdC 245 5 5 none := ⟨⟨by kernel_rfl⟩⟩
instance fd245_6 : FdC 245 6 6 none := ⟨⟨by kernel_rfl⟩⟩
instance fd286_0 : FdC 286 0 0 none := ⟨⟨by kernel_rfl⟩⟩
instance fd286_2 : FdC 286 2 2 none := ⟨⟨by kernel_rfl⟩⟩
instance fd291_0 : FdC 291 0 0 (some 4) := ⟨⟨by kernel_rfl⟩⟩
instance fd291_1 : FdC 291 1 4 none := ⟨⟨by kernel_rfl⟩⟩
instance fd291_2 : FdC 291 2 5 (some 9) := ⟨⟨by kernel_rfl⟩⟩
instance fd417_0 : FdC 417 0 0 (some 4) := ⟨⟨by kernel_rfl⟩⟩
instance fd417_1 : FdC 417 1 4 none := ⟨⟨by kernel_rfl⟩⟩
instance fd417_2 : FdC 417 2 5 (some 9) := ⟨⟨by kernel_rfl⟩⟩
instance fd417_3 : FdC 417 3 14 none := ⟨⟨by kernel_rfl⟩⟩
instance fd425_0 : FdC 425 0 0 (some 4) := ⟨⟨by kernel_rfl⟩⟩
instance fd425_1 : FdC 425 1 4 none := ⟨⟨by kernel_rfl⟩⟩
instance fd425_2 : FdC 425 2 5 none := ⟨⟨by kernel_rfl⟩⟩
theorem ib4 : IbI Tryz.prog 4 := ⟨by kernel_rfl⟩
theorem ik2 : IkI Tryz.prog 2 .i64 := ⟨by kernel_rfl⟩
theorem ik3 : IkI Tryz.prog 3 .i64 := ⟨by kernel_rfl⟩
theorem ik5 : IkI Tryz.prog 5 .u8 := ⟨by kernel_rfl⟩
theorem ik214 : IkI Tryz.prog 214 .u64 := ⟨by kernel_rfl⟩
theorem ik232 : IkI Tryz.prog 232 .u32 := ⟨by kernel_rfl⟩
theorem is22 : IsI Tryz.prog 22 := ⟨by kernel_rfl⟩
theorem is26 : IsI Tryz.prog 26 := ⟨by kernel_rfl⟩
theorem is29 : IsI Tryz.prog 29 := ⟨by kernel_rfl⟩
theorem is55 : IsI Tryz.prog 55 := ⟨by kernel_rfl⟩
theorem is62 : IsI Tryz.prog 62 := ⟨by kernel_rfl⟩
theorem is70 : IsI Tryz.prog 70 := ⟨by kernel_rfl⟩
theorem is71 : IsI Tryz.prog 71 := ⟨by kernel_rfl⟩
theorem is80 : IsI Tryz.prog 80 := ⟨by kernel_rfl⟩
theorem is239 : IsI Tryz.prog 239 := ⟨by kernel_rfl⟩
theorem is278 : IsI Tryz.prog 278 := ⟨by kernel_rfl⟩
theorem is281 : IsI Tryz.prog 281 := ⟨by kernel_rfl⟩
theorem is299 : IsI Tryz.prog 299 := ⟨by kernel_rfl⟩
instance ld2 : LdC 2 := ⟨⟨by kernel_rfl⟩⟩
instance ld3 : LdC 3 := ⟨⟨by kernel_rfl⟩⟩
instance ld4 : LdC 4 := ⟨⟨by kernel_rfl⟩⟩
instance ld22 : LdC 22 := ⟨⟨by kernel_rfl⟩⟩
instance ld23 : LdC 23 := ⟨⟨by kernel_rfl⟩⟩
instance ld25 : LdA 25 4 := ⟨⟨by kernel_rfl⟩⟩
instance ld26 : LdC 26 := ⟨⟨by kernel_rfl⟩⟩
instance ld28 : LdA 28 7 := ⟨⟨by kernel_rfl⟩⟩
instance ld29 : LdC 29 := ⟨⟨by kernel_rfl⟩⟩
instance ld31 : LdA 31 8 := ⟨⟨by kernel_rfl⟩⟩
instance ld55 : LdC 55 := ⟨⟨by kernel_rfl⟩⟩
instance ld57 : LdA 57 3 := ⟨⟨by kernel_rfl⟩⟩
instance ld59 : LdA 59 9 := ⟨⟨by kernel_rfl⟩⟩
instance ld70 : LdC 70 := ⟨⟨by kernel_rfl⟩⟩
instance ld71 : LdC 71 := ⟨⟨by kernel_rfl⟩⟩
instance ld90 : LdA 90 11 := ⟨⟨by kernel_rfl⟩⟩
instance ld104 : LdA 104 3 := ⟨⟨by kernel_rfl⟩⟩
instance ld128 : LdC 128 := ⟨⟨by kernel_rfl⟩⟩
instance ld130 : LdA 130 6 := ⟨⟨by kernel_rfl⟩⟩
instance ld131 : LdC 131 := ⟨⟨by kernel_rfl⟩⟩
instance ld180 : LdA 180 3 := ⟨⟨by kernel_rfl⟩⟩
instance ld183 : LdC 183 := ⟨⟨by kernel_rfl⟩⟩
instance ld196 : LdA 196 3 := ⟨⟨by kernel_rfl⟩⟩
instance ld245 : LdA 245 7 := ⟨⟨by kernel_rfl⟩⟩
instance ld278 : LdC 278 := ⟨⟨by kernel_rfl⟩⟩
instance ld286 : LdA 286 4 := ⟨⟨by kernel_rfl⟩⟩
instance ld299 : LdC 299 := ⟨⟨by kernel_rfl⟩⟩
instance ld425 : LdA 425 6 := ⟨⟨by kernel_rfl⟩⟩
theorem ns2 : NsI Tryz.prog 2 := ⟨by kernel_rfl⟩
theorem ns3 : NsI Tryz.prog 3 := ⟨by kernel_rfl⟩
theorem ns183 : NsI Tryz.prog 183 := ⟨by kernel_rfl⟩
theorem pl25 : PlI Tryz.prog 25 [.zero, .zero, .zero, .zero] [(0, 1), (1, 1), (2, 1), (3, 1)] := ⟨by kernel_rfl⟩
theorem pl28 : PlI Tryz.prog 28 [.zero, .zero, .zero, .zero, .zero, .zero, .d (.v (.int .i64 0))] [(0, 4), (4, 1), (5, 1), (6, 1)] := ⟨by kernel_rfl⟩
theorem pl31 : PlI Tryz.prog 31 [.zero, .zero, .zero, .zero, .zero, .zero, .d (.v (.int .i64 0)), .zero] [(0, 7), (7, 1)] := ⟨by kernel_rfl⟩
theorem pl57 : PlI Tryz.prog 57 [.zero, .zero, .zero] [(0, 1), (1, 1), (2, 1)] := ⟨by kernel_rfl⟩
theorem pl59 : PlI Tryz.prog 59 [.zero, .d (.v (.int .i64 0)), .d (.v (.int .i64 0)), .d (.v (.int .i64 0)), .d (.v (.int .i64 0)), .d (.v (.int .i64 0)), .zero, .zero, .zero] [(0, 1), (1, 1), (2, 1), (3, 1), (4, 1), (5, 1), (6, 3)] := ⟨by kernel_rfl⟩
theorem pl66 : PlI Tryz.prog 66 [.d (.v (.int .i64 0)), .d (.v (.int .i64 0)), .d (.v (.int .i64 0))] [(0, 1), (1, 1), (2, 1)] := ⟨by kernel_rfl⟩
theorem pl67 : PlI Tryz.prog 67 [.d (.v (.bool false)), .d (.v (.bool false))] [(0, 1), (1, 1)] := ⟨by kernel_rfl⟩
theorem pl68 : PlI Tryz.prog 68 [.zero, .d (.v (.int .i64 0)), .d (.v (.int .i64 0)), .d (.v (.int .i64 0)), .d (.v (.int .i64 0)), .d (.v (.int .i64 0)), .zero, .zero, .zero, .zero, .d (.v (.int .i64 0)), .d (.v (.int .i64 0)), .d (.v (.int .i64 0)), .d (.v (.int .i64 0)), .d (.v (.int .i64 0)), .zero, .zero, .zero] [(0, 9), (9, 9)] := ⟨by kernel_rfl⟩
theorem pl73 : PlI Tryz.prog 73 [.zero, .zero, .zero, .zero, .zero, .zero, .d (.v (.int .i64 0)), .d (.v (.int .i64 0)), .d (.v (.int .i64 0)), .d (.v (.int .i64 0)), .d (.v (.int .i64 0)), .d (.v (.string ByteArray.empty)), .zero, .d (.v (.bool false)), .d (.v (.bool false)), .zero, .d (.v (.int .i64 0)), .d (.v (.int .i64 0)), .d (.v (.int .i64 0)), .d (.v (.int .i64 0)), .d (.v (.int .i64 0)), .zero, .zero, .zero, .zero, .d (.v (.int .i64 0)), .d (.v (.int .i64 0)), .d (.v (.int .i64 0)), .d (.v (.int .i64 0)), .d (.v (.int .i64 0)), .zero, .zero, .zero, .zero, .d (.v (.int .i64 0)), .zero, .zero, .zero] [(0, 7), (7, 1), (8, 3), (11, 1), (12, 1), (13, 2), (15, 18), (33, 1), (34, 1), (35, 1), (36, 1), (37, 1)] := ⟨by kernel_rfl⟩
theorem pl76 : PlI Tryz.prog 76 [.zero, .d (.v (.int .i64 0)), .d (.v (.int .i64 0))] [(0, 1), (1, 1), (2, 1)] := ⟨by kernel_rfl⟩
theorem pl104 : PlI Tryz.prog 104 [.d (.v (.int .i64 0)), .d (.v (.int .i64 0)), .d (.v (.int .i64 0))] [(0, 1), (1, 1), (2, 1)] := ⟨by kernel_rfl⟩
theorem pl138 : PlI Tryz.prog 138 [.d (.v (.int .i64 0)), .d (.v (.int .i64 0)), .d (.v (.bool false)), .d (.v (.int .i64 0))] [(0, 1), (1, 1), (2, 1), (3, 1)] := ⟨by kernel_rfl⟩
theorem pl143 : PlI Tryz.prog 143 [.zero, .zero, .zero, .zero, .zero, .zero, .d (.v (.int .i64 0)), .d (.v (.int .i64 0)), .d (.v (.int .i64 0)), .d (.v (.int .i64 0)), .d (.v (.int .i64 0)), .d (.v (.string ByteArray.empty)), .zero, .d (.v (.bool false)), .d (.v (.bool false)), .zero, .d (.v (.int .i64 0)), .d (.v (.int .i64 0)), .d (.v (.int .i64 0)), .d (.v (.int .i64 0)), .d (.v (.int .i64 0)), .zero, .zero, .zero, .zero, .d (.v (.int .i64 0)), .d (.v (.int .i64 0)), .d (.v (.int .i64 0)), .d (.v (.int .i64 0)), .d (.v (.int .i64 0)), .zero, .zero, .zero, .zero, .d (.v (.int .i64 0)), .zero, .zero, .zero] [(0, 7), (7, 1), (8, 3), (11, 1), (12, 1), (13, 2), (15, 18), (33, 1), (34, 1), (35, 1), (36, 1), (37, 1)] := ⟨by kernel_rfl⟩
theorem pl180 : PlI Tryz.prog 180 [.d (.v (.int .i64 0)), .d (.v (.int .i64 0)), .d (.v (.int .i64 0))] [(0, 1), (1, 1), (2, 1)] := ⟨by kernel_rfl⟩
theorem pl196 : PlI Tryz.prog 196 [.d (.v (.int .i64 0)), .d (.v (.int .i64 0)), .d (.v (.int .i64 0))] [(0, 1), (1, 1), (2, 1)] := ⟨by kernel_rfl⟩
theorem pl286 : PlI Tryz.prog 286 [.d (.v (.int .i64 0)), .d (.v (.int .i64 0)), .d (.v (.int .i64 0)), .d (.v (.string ByteArray.empty))] [(0, 1), (1, 1), (2, 1), (3, 1)] := ⟨by kernel_rfl⟩
theorem pl291 : PlI Tryz.prog 291 [.zero, .zero, .zero, .zero, .zero, .zero, .d (.v (.int .i64 0)), .d (.v (.int .i64 0)), .d (.v (.int .i64 0)), .d (.v (.int .i64 0)), .d (.v (.int .i64 0)), .zero, .zero, .zero] [(0, 4), (4, 1), (5, 9)] := ⟨by kernel_rfl⟩
theorem pl303 : PlI Tryz.prog 303 [.d (.v (.int .i64 0)), .d (.v (.int .i64 0)), .d (.v (.int .i64 0)), .d (.v (.int .i64 0)), .d (.v (.string ByteArray.empty)), .d (.v (.int .i64 0)), .d (.v (.int .i64 0)), .d (.v (.int .i64 0)), .d (.v (.int .i64 0)), .d (.v (.int .i64 0))] [(0, 1), (1, 4), (5, 3), (8, 1), (9, 1)] := ⟨by kernel_rfl⟩
theorem pl417 : PlI Tryz.prog 417 [.zero, .zero, .zero, .zero, .zero, .zero, .d (.v (.int .i64 0)), .d (.v (.int .i64 0)), .d (.v (.int .i64 0)), .d (.v (.int .i64 0)), .d (.v (.int .i64 0)), .zero, .zero, .zero, .zero] [(0, 4), (4, 1), (5, 9), (14, 1)] := ⟨by kernel_rfl⟩
theorem pl425 : PlI Tryz.prog 425 [.zero, .zero, .zero, .zero, .zero, .zero] [(0, 4), (4, 1), (5, 1)] := ⟨by kernel_rfl⟩
instance sz2 : SzC 2 1 := ⟨⟨by kernel_rfl⟩⟩
instance sz3 : SzC 3 1 := ⟨⟨by kernel_rfl⟩⟩
instance sz22 : SzC 22 1 := ⟨⟨by kernel_rfl⟩⟩
instance sz25 : SzC 25 4 := ⟨⟨by kernel_rfl⟩⟩
instance sz26 : SzC 26 1 := ⟨⟨by kernel_rfl⟩⟩
instance sz29 : SzC 29 1 := ⟨⟨by kernel_rfl⟩⟩
instance sz31 : SzC 31 8 := ⟨⟨by kernel_rfl⟩⟩
instance sz55 : SzC 55 1 := ⟨⟨by kernel_rfl⟩⟩
instance sz57 : SzC 57 3 := ⟨⟨by kernel_rfl⟩⟩
instance sz59 : SzC 59 9 := ⟨⟨by kernel_rfl⟩⟩
instance sz70 : SzC 70 1 := ⟨⟨by kernel_rfl⟩⟩
instance sz71 : SzC 71 1 := ⟨⟨by kernel_rfl⟩⟩
instance sz90 : SzC 90 11 := ⟨⟨by kernel_rfl⟩⟩
instance sz104 : SzC 104 3 := ⟨⟨by kernel_rfl⟩⟩
instance sz130 : SzC 130 6 := ⟨⟨by kernel_rfl⟩⟩
instance sz180 : SzC 180 3 := ⟨⟨by kernel_rfl⟩⟩
instance sz183 : SzC 183 1 := ⟨⟨by kernel_rfl⟩⟩
instance sz196 : SzC 196 3 := ⟨⟨by kernel_rfl⟩⟩
instance sz245 : SzC 245 7 := ⟨⟨by kernel_rfl⟩⟩
instance sz286 : SzC 286 4 := ⟨⟨by kernel_rfl⟩⟩
instance sz299 : SzC 299 1 := ⟨⟨by kernel_rfl⟩⟩
instance sz425 : SzC 425 6 := ⟨⟨by kernel_rfl⟩⟩
theorem zr25 : ZrI Tryz.prog 25 [.zero, .zero, .zero, .zero] := ⟨by kernel_rfl⟩
theorem zr31 : ZrI Tryz.prog 31 [.zero, .zero, .zero, .zero, .zero, .zero, .d (.v (.int .i64 0)), .zero] := ⟨by kernel_rfl⟩
theorem zr57 : ZrI Tryz.prog 57 [.zero, .zero, .zero] := ⟨by kernel_rfl⟩
theorem zr59 : ZrI Tryz.prog 59 [.zero, .d (.v (.int .i64 0)), .d (.v (.int .i64 0)), .d (.v (.int .i64 0)), .d (.v (.int .i64 0)), .d (.v (.int .i64 0)), .zero, .zero, .zero] := ⟨by kernel_rfl⟩
theorem zr90 : ZrI Tryz.prog 90 [.d (.v (.int .i64 0)), .d (.v (.int .i64 0)), .d (.v (.int .i64 0)), .d (.v (.int .i64 0)), .d (.v (.int .i64 0)), .d (.v (.int .i64 0)), .d (.v (.int .i64 0)), .d (.v (.int .i64 0)), .d (.v (.int .i64 0)), .d (.v (.int .i64 0)), .d (.v (.int .i64 0))] := ⟨by kernel_rfl⟩
theorem zr104 : ZrI Tryz.prog 104 [.d (.v (.int .i64 0)), .d (.v (.int .i64 0)), .d (.v (.int .i64 0))] := ⟨by kernel_rfl⟩
theorem zr130 : ZrI Tryz.prog 130 [.d (.v (.int .i64 0)), .d (.v (.int .i64 0)), .d (.v (.int .i64 0)), .d (.v (.bool false)), .zero, .zero] := ⟨by kernel_rfl⟩
theorem zr180 : ZrI Tryz.prog 180 [.d (.v (.int .i64 0)), .d (.v (.int .i64 0)), .d (.v (.int .i64 0))] := ⟨by kernel_rfl⟩
theorem zr196 : ZrI Tryz.prog 196 [.d (.v (.int .i64 0)), .d (.v (.int .i64 0)), .d (.v (.int .i64 0))] := ⟨by kernel_rfl⟩
theorem zr245 : ZrI Tryz.prog 245 [.d (.v (.int .i64 0)), .d (.v (.int .i64 0)), .d (.v (.int .i64 0)), .d (.v (.int .i64 0)), .d (.v (.int .i64 0)), .d (.v (.bool false)), .d (.v (.int .i64 0))] := ⟨by kernel_rfl⟩
theorem zr286 : ZrI Tryz.prog 286 [.d (.v (.int .i64 0)), .d (.v (.int .i64 0)), .d (.v (.int .i64 0)), .d (.v (.string ByteArray.empty))] := ⟨by kernel_rfl⟩
theorem zr349 : ZrI Tryz.prog 349 [.d (.v (.int .i64 0)), .d (.v (.int .i64 0)), .d (.v (.int .i64 0))] := ⟨by kernel_rfl⟩
theorem zr425 : ZrI Tryz.prog 425 [.zero, .zero, .zero, .zero, .zero, .zero] := ⟨by kernel_rfl⟩
end Go.Proofs.YtfnljcallbalgaaGreatDoor

