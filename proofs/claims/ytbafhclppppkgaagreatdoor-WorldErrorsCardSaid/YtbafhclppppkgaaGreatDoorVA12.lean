/- Rules of runs and contracts of functions, for the claims of one seat. -/
import Derived.Test.YtbafhclppppkgaaGreatDoorVA11
namespace Go.Proofs.YtbafhclppppkgaaGreatDoor
open Go Go.RowKit
set_option linter.unusedSimpArgs false
set_option linter.unusedVariables false
def nilC : ConfD := ⟨0, 0, 0⟩
abbrev Fail := Int × MixD × ConfD × Int
def failL (p : Prob) : MixD → List StepD → Int → Fail
 | m, [], i => if goalP p m = true then (0, nilM, nilC, 15) else (i, nilM, nilC, 14)
 | m, s :: r, i => if ¬ (applyP p m s).2 = 0 ∨ s.kind = 4 then (i, nilM, nilC, 0)
  else if (blameP p (applyP p m s).1).2.2 = 0 then (i, (blameP p (applyP p m s).1).1, (blameP p (applyP p m s).1).2.1, 0)
  else failL p (applyP p m s).1 r (i + 1)
def failP (p : Prob) (l : List StepD) : Fail :=
 if ¬ vpErr p = 0 then (0, nilM, nilC, vpErr p)
 else if (blameP p (startM p)).2.2 = 0 then (-1, (blameP p (startM p)).1, (blameP p (startM p)).2.1, 0)
 else failL p (startM p) l 0
def checkP (p : Prob) (l : List StepD) : Bool := decide ((failP p l).2.2.2 = 15)
theorem apply_after {p : Prob} {m : MixD} {s : StepD} (h : (applyP p m s).2 = 0) : afterP p m s = some (applyP p m s).1 ∧ mixErr p m = 0 ∧ stepOK s = true ∧ thereB p s = true := by
 unfold applyP at h ⊢
 split at h
 ·contradiction
 ·rename_i h1
  rw [if_neg h1]
  split at h
  ·cases h
  ·rename_i h2
   rw [if_neg h2]
   split at h
   ·cases h
   ·rename_i h3
    rw [if_neg h3]
    split at h
    ·cases h
    ·rename_i x hx
     simp only [hx]
     refine ⟨?_, Classical.not_not.1 h1, by simpa using h2, by simpa using h3⟩
     first | exact hx | trivial | rfl
structure NodesOK (p : Prob) (m0 : MixD) (l : List NodeD) : Prop where
 pos : 0 < l.length
 first : l.getD 0 nilN = ⟨m0, -1, nilS⟩
 rob : robustP p m0 = true
 up : ∀ k, 0 < k → k < l.length → ∃ j : Nat, j < k ∧ (l.getD k nilN).before = (j : Int) ∧ (l.getD k nilN).by_ ∈ stepsP p (l.getD j nilN).mix ∧ (l.getD k nilN).mix = ((afterP p (l.getD j nilN).mix (l.getD k nilN).by_).getD nilM) ∧ robustP p (l.getD k nilN).mix = true
theorem getD_app {α : Type} {l r : List α} {d : α} {k : Nat} (h : k < l.length) : (l ++ r).getD k d = l.getD k d := by
 rw [List.getD_eq_getElem?_getD, List.getD_eq_getElem?_getD, List.getElem?_append_left h]
theorem getD_last {α : Type} {l : List α} {x d : α} : (l ++ [x]).getD l.length d = x := by
 rw [List.getD_eq_getElem?_getD, List.getElem?_append_right (Nat.le_refl _)]
 simp
theorem NodesOK.add {p : Prob} {m0 : MixD} {l : List NodeD} (h : NodesOK p m0 l) {i : Nat} (hi : i < l.length) {s : StepD} (hs : s ∈ stepsP p (l.getD i nilN).mix) (hr : robustP p ((afterP p (l.getD i nilN).mix s).getD nilM) = true) :
    NodesOK p m0 (l ++ [⟨(afterP p (l.getD i nilN).mix s).getD nilM, i, s⟩]) := by
 refine ⟨by simp, by rw [getD_app h.pos]; exact h.first, h.rob, fun k hk hl => ?_⟩
 by_cases e : k < l.length
 ·obtain ⟨j, h1, h2, h3, h4, h5⟩ := h.up k hk e
  exact ⟨j, h1, by rw [getD_app e]; exact h2, by rw [getD_app e, getD_app (by omega)]; exact h3, by rw [getD_app e, getD_app (by omega)]; exact h4, by rw [getD_app e]; exact h5⟩
 ·have : k = l.length := by simp at hl; omega
  subst this
  exact ⟨i, hi, by rw [getD_last], by rw [getD_last, getD_app hi]; exact hs, by rw [getD_last, getD_app hi], by rw [getD_last]; exact hr⟩
end Go.Proofs.YtbafhclppppkgaaGreatDoor

namespace Go.Proofs.YtbafhclppppkgaaGreatDoor
open Go Go.RowKit
set_option linter.unusedSimpArgs false
set_option linter.unusedVariables false
structure CtlD where
 plan : List StepD
 at_ : Int
 phase : Int
 replica : Int
 round : Int
 token : Int
 mix : MixD
deriving DecidableEq
def nilCtl : CtlD := ⟨[], 0, 0, 0, 0, 0, nilM⟩
def ctlRow (c : CtlD) : List D := [.sl 3 (dSteps c.plan), .v (.int .i64 c.at_), .v (.int .i64 c.phase), .v (.int .i64 c.replica), .v (.int .i64 c.round), .v (.int .i64 c.token), .sl 1 (dInts c.mix.base), .sl 1 (dInts c.mix.next), .sl 1 (dSets c.mix.held)]
def ctlC (c : CtlD) : List C := (ctlRow c).map .d
structure SigD where
 kind : Int
 token : Int
 round : Int
 replica : Int
 ver : Int
 pass : Bool
 table : Int
structure EntD where
 kind : Int
 token : Int
 idx : Int
 data : ByteArray
def entRow (e : EntD) : List D := [.v (.int .i64 e.kind), .v (.int .i64 e.token), .v (.int .i64 e.idx), .v (.string e.data)]
def dEnts (l : List EntD) : List (List D) := l.map entRow
def nilE : EntD := ⟨0, 0, 0, ByteArray.empty⟩
structure ActD where
 kind : Int
 ent : EntD
 round : Int
 replica : Int
 ver : Int
 service : Int
 table : Int
def actRow (a : ActD) : List D := [.v (.int .i64 a.kind)] ++ entRow a.ent ++ [.v (.int .i64 a.round), .v (.int .i64 a.replica), .v (.int .i64 a.ver), .v (.int .i64 a.service), .v (.int .i64 a.table)]
def dActs (l : List ActD) : List (List D) := l.map actRow
def w64 (n : Int) : Int := IntKind.i64.wrap n
def replOK (n : Int) : Bool := decide (1 ≤ n ∧ n ≤ 4)
def setErr (p : Prob) (rs : List Int) : Int :=
 if ¬ vpErr p = 0 then vpErr p else if ¬ rs.length = p.vs.length then 6 else if rs.all replOK = false then 7 else 0
def firstR (rs : List Int) (s : Int) : Int := (rs.take s.toNat).sum
def newP (p : Prob) (rs : List Int) (l : List StepD) : CtlD × Int :=
 if ¬ setErr p rs = 0 then (nilCtl, setErr p rs)
 else if checkP p l = false then (nilCtl, 13)
 else (⟨l, 0, if l.length = 0 then 6 else 0, 0, 0, 0, startM p⟩, 0)
def mixesP (p : Prob) (l : List StepD) : List MixD := (runP p (startM p) l).1
def abortM (p : Prob) (m : MixD) (i : Int) : MixD := (afterP p m ⟨4, i, 0⟩).getD nilM
def abortedP (p : Prob) (l : List StepD) (at_ : Int) : MixD := abortM p ((mixesP p l).getD (at_ + 1).toNat nilM) (l.getD at_.toNat nilS).idx
def present (c : CtlD) : StepD := c.plan.getD c.at_.toNat nilS
def bump (c : CtlD) : CtlD := { c with round := w64 (c.round + 1) }
def afterM (p : Prob) (m : MixD) (s : StepD) : MixD := (afterP p m s).getD nilM
def doneC (p : Prob) (c : CtlD) : CtlD :=
 { plan := c.plan, at_ := w64 (c.at_ + 1), phase := if w64 (c.at_ + 1) = c.plan.length then 6 else 0, replica := 0, round := w64 (c.round + 1), token := c.token, mix := if ¬ (present c).kind = 1 then afterM p c.mix (present c) else c.mix }
end Go.Proofs.YtbafhclppppkgaaGreatDoor

namespace Go.Proofs.YtbafhclppppkgaaGreatDoor
open Go Go.RowKit
set_option linter.unusedSimpArgs false
set_option linter.unusedVariables false
def tabC (t : Tab) : List C := [.d (.v (.int .i64 t.kind)), .d (.v (.int .i64 t.frm)), .d (.v (.int .i64 t.tto)), .d (.v (.bool t.aware)), .d (.sl 1 (dMat t.ok)), .d (.sl 1 (dMat t.rw))]
theorem vp_parts {p : Prob} : vpErr p = 0 ↔ (p.vs.length ≤ 6 ∧ p.tabs.length ≤ 12) ∧ (p.now.length = p.vs.length ∧ p.tgt.length = p.vs.length) ∧ rngOK p.vs p.now p.tgt = true ∧ tabsErr p.vs p.tabs = 0 := by
 unfold vpErr
 constructor
 ·intro h
  split at h
  ·cases h
  ·split at h
   ·cases h
   ·split at h
    ·cases h
    ·rename_i h1 h2 h3
     exact ⟨by omega, by omega, by simpa using h3, h⟩
 ·rintro ⟨h1, h2, h3, h4⟩
  rw [if_neg (by omega), if_neg (by omega), if_neg (by simp [h3])]
  exact h4
theorem rngOK_get : ∀ {vs now tgt : List Int}, now.length = vs.length → tgt.length = vs.length → (rngOK vs now tgt = true ↔ ∀ i (h : i < vs.length), (1 ≤ vs[i] ∧ vs[i] ≤ 6) ∧ withinB (now.getD i 0) vs[i] = true ∧ withinB (tgt.getD i 0) vs[i] = true)
 | [], [], [], _, _ => by simp [rngOK]
 | n :: vs, a :: now, b :: tgt, h1, h2 => by
  have ih := rngOK_get (vs := vs) (now := now) (tgt := tgt) (by simpa using h1) (by simpa using h2)
  simp only [rngOK, Bool.and_eq_true, decide_eq_true_eq]
  rw [ih]
  constructor
  ·rintro ⟨⟨⟨k1, k2⟩, k3⟩, k4⟩ i hi
   rcases i with _ | i
   ·exact ⟨k1, by simpa using k2, by simpa using k3⟩
   ·simpa using k4 i (by simpa using hi)
  ·intro h
   have h0 := h 0 (by simp)
   exact ⟨⟨⟨h0.1, by simpa using h0.2.1⟩, by simpa using h0.2.2⟩, fun i hi => h (i + 1) (by simpa using hi)⟩
 | [], _ :: _, _, h, _ => by simp at h
 | [], [], _ :: _, _, h => by simp at h
 | _ :: _, [], _, h, _ => by simp at h
 | _ :: _, _ :: _, [], _, h => by simp at h
theorem tabsErr_zero {vs : List Int} : ∀ {ts : List Tab}, tabsErr vs ts = 0 ↔ ∀ t ∈ ts, tabErr vs t = 0
 | [] => by simp [tabsErr]
 | t :: ts => by
  unfold tabsErr
  constructor
  ·intro h
   split at h
   ·rename_i h1; exact absurd h h1
   ·rename_i h1
    intro u hu
    rcases List.mem_cons.1 hu with rfl | hu
    ·exact Classical.byContradiction h1
    ·exact tabsErr_zero.1 h u hu
  ·intro h
   rw [if_neg (by simpa using h t (by simp))]
   exact tabsErr_zero.2 fun u hu => h u (by simp [hu])
structure LinkD where
 kind : Int
 frm : Int
 tto : Int
 aware : Bool
 bad : Int
 lost : Int
structure DraftD where
 vs : List Int
 now : List Int
 tgt : List Int
 links : List LinkD
def u8s (xs : List Int) : Prop := ∀ x ∈ xs, 0 ≤ x ∧ x < 256
end Go.Proofs.YtbafhclppppkgaaGreatDoor

namespace Go.Proofs.YtbafhclppppkgaaGreatDoor
open Go Go.RowKit
set_option linter.unusedSimpArgs false
set_option linter.unusedVariables false
def nilA : ActD := ⟨0, nilE, 0, 0, 0, 0, 0⟩
def nilG : SigD := ⟨0, 0, 0, 0, 0, false, 0⟩
def sigRow (s : SigD) : List D := [.v (.int .i64 s.kind), .v (.int .i64 s.token), .v (.int .i64 s.round), .v (.int .i64 s.replica), .v (.int .i64 s.ver), .v (.bool s.pass), .v (.int .i64 s.table)]
def dSigs (l : List SigD) : List (List D) := l.map sigRow
structure RepD where
 svc : Int
 ver : Int
 up : Bool
 rnd : Int
def repRow (r : RepD) : List D := [.v (.int .i64 r.svc), .v (.int .i64 r.ver), .v (.bool r.up), .v (.int .i64 r.rnd)]
def dReps (l : List RepD) : List (List D) := l.map repRow
def dCtls (l : List CtlD) : List (List D) := l.map ctlRow
theorem rowsG {α : Type} {f : α → List D} {xs : List α} {n : Int} (d : α) (h : 0 ≤ n ∧ n < xs.length) : 0 ≤ n ∧ (xs.map f)[n.toNat]? = some (f (xs.getD n.toNat d)) := ⟨h.1, row_get h⟩
theorem rowsN {α : Type} {f : α → List D} {xs : List α} {n : Nat} (d : α) (h : n < xs.length) : (xs.map f)[n]? = some (f (xs.getD n d)) := row_getN h
theorem rowsZ {α : Type} {f : α → List D} {xs : List α} {n : Int} (d : α) (h : 0 ≤ n ∧ n < xs.length) : (xs.map f)[n.toNat]? = some (f (xs.getD n.toNat d)) := row_get h
theorem gInts {xs : List (Int)} {n : Int} (h : 0 ≤ n ∧ n < xs.length) : 0 ≤ n ∧ (dInts xs)[n.toNat]? = some ([.v (.int .i64 (xs.getD n.toNat 0))]) := rowsG 0 h
theorem gIntsN {xs : List (Int)} {k : Nat} (h : k < xs.length) : 0 ≤ (k : Int) ∧ (dInts xs)[(k : Int).toNat]? = some ([.v (.int .i64 (xs.getD k 0))]) := ⟨Int.natCast_nonneg k, rowsN 0 h⟩
theorem zInts {xs : List (Int)} {n : Int} (h : 0 ≤ n ∧ n < xs.length) : (dInts xs)[n.toNat]? = some ([.v (.int .i64 (xs.getD n.toNat 0))]) := rowsZ 0 h
theorem lInts {xs : List (Int)} : (dInts xs).length = xs.length := List.length_map _
theorem aInts {xs ys : List (Int)} : dInts xs ++ dInts ys = dInts (xs ++ ys) := List.map_append.symm
theorem nInts {xs : List (Int)} {a b : Nat} : ((dInts xs).drop a).take b = dInts ((xs.drop a).take b) := by unfold dInts; rw [List.map_take, List.map_drop]
theorem sInts {xs : List (Int)} {x : Int} : dInts xs ++ [[.v (.int .i64 x)]] = dInts (xs ++ [x]) := aInts (ys := [x])
theorem oInts {x : Int} : [[.v (.int .i64 x)]] = dInts [x] := rfl
theorem wInts {xs : List (Int)} {j : Nat} {x : Int} : (dInts xs).set j ([.v (.int .i64 x)]) = dInts (xs.set j x) := List.map_set.symm
theorem gSets {xs : List (Int)} {n : Int} (h : 0 ≤ n ∧ n < xs.length) : 0 ≤ n ∧ (dSets xs)[n.toNat]? = some ([.v (.int .u8 (xs.getD n.toNat 0))]) := rowsG 0 h
theorem gSetsN {xs : List (Int)} {k : Nat} (h : k < xs.length) : 0 ≤ (k : Int) ∧ (dSets xs)[(k : Int).toNat]? = some ([.v (.int .u8 (xs.getD k 0))]) := ⟨Int.natCast_nonneg k, rowsN 0 h⟩
theorem zSets {xs : List (Int)} {n : Int} (h : 0 ≤ n ∧ n < xs.length) : (dSets xs)[n.toNat]? = some ([.v (.int .u8 (xs.getD n.toNat 0))]) := rowsZ 0 h
theorem lSets {xs : List (Int)} : (dSets xs).length = xs.length := List.length_map _
theorem aSets {xs ys : List (Int)} : dSets xs ++ dSets ys = dSets (xs ++ ys) := List.map_append.symm
theorem sSets {xs : List (Int)} {x : Int} : dSets xs ++ [[.v (.int .u8 x)]] = dSets (xs ++ [x]) := aSets (ys := [x])
theorem oSets {x : Int} : [[.v (.int .u8 x)]] = dSets [x] := rfl
theorem wSets {xs : List (Int)} {j : Nat} {x : Int} : (dSets xs).set j ([.v (.int .u8 x)]) = dSets (xs.set j x) := List.map_set.symm
theorem rSets {n : Nat} {x : Int} : List.replicate n ([.v (.int .u8 x)]) = dSets (List.replicate n x) := by unfold dSets; rw [List.map_replicate]
theorem gBools {xs : List (Bool)} {n : Int} (h : 0 ≤ n ∧ n < xs.length) : 0 ≤ n ∧ (dBools xs)[n.toNat]? = some ([.v (.bool (xs.getD n.toNat false))]) := rowsG false h
theorem gBoolsN {xs : List (Bool)} {k : Nat} (h : k < xs.length) : 0 ≤ (k : Int) ∧ (dBools xs)[(k : Int).toNat]? = some ([.v (.bool (xs.getD k false))]) := ⟨Int.natCast_nonneg k, rowsN false h⟩
theorem zBools {xs : List (Bool)} {n : Int} (h : 0 ≤ n ∧ n < xs.length) : (dBools xs)[n.toNat]? = some ([.v (.bool (xs.getD n.toNat false))]) := rowsZ false h
theorem lBools {xs : List (Bool)} : (dBools xs).length = xs.length := List.length_map _
theorem wBools {xs : List (Bool)} {j : Nat} {x : Bool} : (dBools xs).set j ([.v (.bool x)]) = dBools (xs.set j x) := List.map_set.symm
theorem gMat {xs : List (List Bool)} {n : Int} (h : 0 ≤ n ∧ n < xs.length) : 0 ≤ n ∧ (dMat xs)[n.toNat]? = some ([.sl 1 (dBools (xs.getD n.toNat []))]) := rowsG [] h
theorem gMatN {xs : List (List Bool)} {k : Nat} (h : k < xs.length) : 0 ≤ (k : Int) ∧ (dMat xs)[(k : Int).toNat]? = some ([.sl 1 (dBools (xs.getD k []))]) := ⟨Int.natCast_nonneg k, rowsN [] h⟩
theorem zMat {xs : List (List Bool)} {n : Int} (h : 0 ≤ n ∧ n < xs.length) : (dMat xs)[n.toNat]? = some ([.sl 1 (dBools (xs.getD n.toNat []))]) := rowsZ [] h
theorem lMat {xs : List (List Bool)} : (dMat xs).length = xs.length := List.length_map _
theorem wMat {xs : List (List Bool)} {j : Nat} {x : List Bool} : (dMat xs).set j ([.sl 1 (dBools x)]) = dMat (xs.set j x) := List.map_set.symm
theorem gTabs {xs : List (Tab)} {n : Int} (h : 0 ≤ n ∧ n < xs.length) : 0 ≤ n ∧ (dTabs xs)[n.toNat]? = some (tabRow (xs.getD n.toNat nilT)) := rowsG nilT h
theorem gTabsN {xs : List (Tab)} {k : Nat} (h : k < xs.length) : 0 ≤ (k : Int) ∧ (dTabs xs)[(k : Int).toNat]? = some (tabRow (xs.getD k nilT)) := ⟨Int.natCast_nonneg k, rowsN nilT h⟩
theorem zTabs {xs : List (Tab)} {n : Int} (h : 0 ≤ n ∧ n < xs.length) : (dTabs xs)[n.toNat]? = some (tabRow (xs.getD n.toNat nilT)) := rowsZ nilT h
theorem lTabs {xs : List (Tab)} : (dTabs xs).length = xs.length := List.length_map _
theorem wTabs {xs : List (Tab)} {j : Nat} {x : Tab} : (dTabs xs).set j (tabRow x) = dTabs (xs.set j x) := List.map_set.symm
theorem gMixes {xs : List (MixD)} {n : Int} (h : 0 ≤ n ∧ n < xs.length) : 0 ≤ n ∧ (dMixes xs)[n.toNat]? = some (mixRow (xs.getD n.toNat nilM)) := rowsG nilM h
theorem gMixesN {xs : List (MixD)} {k : Nat} (h : k < xs.length) : 0 ≤ (k : Int) ∧ (dMixes xs)[(k : Int).toNat]? = some (mixRow (xs.getD k nilM)) := ⟨Int.natCast_nonneg k, rowsN nilM h⟩
theorem zMixes {xs : List (MixD)} {n : Int} (h : 0 ≤ n ∧ n < xs.length) : (dMixes xs)[n.toNat]? = some (mixRow (xs.getD n.toNat nilM)) := rowsZ nilM h
theorem lMixes {xs : List (MixD)} : (dMixes xs).length = xs.length := List.length_map _
theorem aMixes {xs ys : List (MixD)} : dMixes xs ++ dMixes ys = dMixes (xs ++ ys) := List.map_append.symm
theorem sMixes {xs : List (MixD)} {x : MixD} : dMixes xs ++ [mixRow x] = dMixes (xs ++ [x]) := aMixes (ys := [x])
theorem wMixes {xs : List (MixD)} {j : Nat} {x : MixD} : (dMixes xs).set j (mixRow x) = dMixes (xs.set j x) := List.map_set.symm
theorem gSteps {xs : List (StepD)} {n : Int} (h : 0 ≤ n ∧ n < xs.length) : 0 ≤ n ∧ (dSteps xs)[n.toNat]? = some (stepRow (xs.getD n.toNat nilS)) := rowsG nilS h
theorem gStepsN {xs : List (StepD)} {k : Nat} (h : k < xs.length) : 0 ≤ (k : Int) ∧ (dSteps xs)[(k : Int).toNat]? = some (stepRow (xs.getD k nilS)) := ⟨Int.natCast_nonneg k, rowsN nilS h⟩
theorem zSteps {xs : List (StepD)} {n : Int} (h : 0 ≤ n ∧ n < xs.length) : (dSteps xs)[n.toNat]? = some (stepRow (xs.getD n.toNat nilS)) := rowsZ nilS h
theorem lSteps {xs : List (StepD)} : (dSteps xs).length = xs.length := List.length_map _
theorem aSteps {xs ys : List (StepD)} : dSteps xs ++ dSteps ys = dSteps (xs ++ ys) := List.map_append.symm
theorem sSteps {xs : List (StepD)} {x : StepD} : dSteps xs ++ [stepRow x] = dSteps (xs ++ [x]) := aSteps (ys := [x])
theorem wSteps {xs : List (StepD)} {j : Nat} {x : StepD} : (dSteps xs).set j (stepRow x) = dSteps (xs.set j x) := List.map_set.symm
theorem lNodes {xs : List (NodeD)} : (dNodes xs).length = xs.length := List.length_map _
theorem gConfs {xs : List (ConfD)} {n : Int} (h : 0 ≤ n ∧ n < xs.length) : 0 ≤ n ∧ (dConfs xs)[n.toNat]? = some (confRow (xs.getD n.toNat nilC)) := rowsG nilC h
theorem gConfsN {xs : List (ConfD)} {k : Nat} (h : k < xs.length) : 0 ≤ (k : Int) ∧ (dConfs xs)[(k : Int).toNat]? = some (confRow (xs.getD k nilC)) := ⟨Int.natCast_nonneg k, rowsN nilC h⟩
theorem zConfs {xs : List (ConfD)} {n : Int} (h : 0 ≤ n ∧ n < xs.length) : (dConfs xs)[n.toNat]? = some (confRow (xs.getD n.toNat nilC)) := rowsZ nilC h
theorem lConfs {xs : List (ConfD)} : (dConfs xs).length = xs.length := List.length_map _
theorem aConfs {xs ys : List (ConfD)} : dConfs xs ++ dConfs ys = dConfs (xs ++ ys) := List.map_append.symm
theorem sConfs {xs : List (ConfD)} {x : ConfD} : dConfs xs ++ [confRow x] = dConfs (xs ++ [x]) := aConfs (ys := [x])
theorem wConfs {xs : List (ConfD)} {j : Nat} {x : ConfD} : (dConfs xs).set j (confRow x) = dConfs (xs.set j x) := List.map_set.symm
theorem gEnts {xs : List (EntD)} {n : Int} (h : 0 ≤ n ∧ n < xs.length) : 0 ≤ n ∧ (dEnts xs)[n.toNat]? = some (entRow (xs.getD n.toNat nilE)) := rowsG nilE h
theorem gEntsN {xs : List (EntD)} {k : Nat} (h : k < xs.length) : 0 ≤ (k : Int) ∧ (dEnts xs)[(k : Int).toNat]? = some (entRow (xs.getD k nilE)) := ⟨Int.natCast_nonneg k, rowsN nilE h⟩
theorem zEnts {xs : List (EntD)} {n : Int} (h : 0 ≤ n ∧ n < xs.length) : (dEnts xs)[n.toNat]? = some (entRow (xs.getD n.toNat nilE)) := rowsZ nilE h
theorem lEnts {xs : List (EntD)} : (dEnts xs).length = xs.length := List.length_map _
theorem aEnts {xs ys : List (EntD)} : dEnts xs ++ dEnts ys = dEnts (xs ++ ys) := List.map_append.symm
theorem sEnts {xs : List (EntD)} {x : EntD} : dEnts xs ++ [entRow x] = dEnts (xs ++ [x]) := aEnts (ys := [x])
theorem wEnts {xs : List (EntD)} {j : Nat} {x : EntD} : (dEnts xs).set j (entRow x) = dEnts (xs.set j x) := List.map_set.symm
theorem zActs {xs : List (ActD)} {n : Int} (h : 0 ≤ n ∧ n < xs.length) : (dActs xs)[n.toNat]? = some (actRow (xs.getD n.toNat nilA)) := rowsZ nilA h
theorem lActs {xs : List (ActD)} : (dActs xs).length = xs.length := List.length_map _
theorem aActs {xs ys : List (ActD)} : dActs xs ++ dActs ys = dActs (xs ++ ys) := List.map_append.symm
theorem wActs {xs : List (ActD)} {j : Nat} {x : ActD} : (dActs xs).set j (actRow x) = dActs (xs.set j x) := List.map_set.symm
theorem lCtls {xs : List (CtlD)} : (dCtls xs).length = xs.length := List.length_map _
theorem gSigs {xs : List (SigD)} {n : Int} (h : 0 ≤ n ∧ n < xs.length) : 0 ≤ n ∧ (dSigs xs)[n.toNat]? = some (sigRow (xs.getD n.toNat nilG)) := rowsG nilG h
theorem gSigsN {xs : List (SigD)} {k : Nat} (h : k < xs.length) : 0 ≤ (k : Int) ∧ (dSigs xs)[(k : Int).toNat]? = some (sigRow (xs.getD k nilG)) := ⟨Int.natCast_nonneg k, rowsN nilG h⟩
theorem zSigs {xs : List (SigD)} {n : Int} (h : 0 ≤ n ∧ n < xs.length) : (dSigs xs)[n.toNat]? = some (sigRow (xs.getD n.toNat nilG)) := rowsZ nilG h
theorem lSigs {xs : List (SigD)} : (dSigs xs).length = xs.length := List.length_map _
theorem wSigs {xs : List (SigD)} {j : Nat} {x : SigD} : (dSigs xs).set j (sigRow x) = dSigs (xs.set j x) := List.map_set.symm
theorem lReps {xs : List (RepD)} : (dReps xs).length = xs.length := List.length_map _
theorem aReps {xs ys : List (RepD)} : dReps xs ++ dReps ys = dReps (xs ++ ys) := List.map_append.symm
theorem sReps {xs : List (RepD)} {x : RepD} : dReps xs ++ [repRow x] = dReps (xs ++ [x]) := aReps (ys := [x])
theorem sRepsC {xs : List RepD} {a b : Int} {u : Bool} {c : Int} : dReps xs ++ [[.v (.int .i64 a), .v (.int .i64 b), .v (.bool u), .v (.int .i64 c)]] = dReps (xs ++ [⟨a, b, u, c⟩]) := sReps (x := ⟨a, b, u, c⟩)
theorem sStepsC {xs : List StepD} {a b c : Int} : dSteps xs ++ [[.v (.int .i64 a), .v (.int .i64 b), .v (.int .i64 c)]] = dSteps (xs ++ [⟨a, b, c⟩]) := sSteps (x := ⟨a, b, c⟩)
theorem sConfsC {xs : List ConfD} {a b c : Int} : dConfs xs ++ [[.v (.int .i64 a), .v (.int .i64 b), .v (.int .i64 c)]] = dConfs (xs ++ [⟨a, b, c⟩]) := sConfs (x := ⟨a, b, c⟩)
theorem sMixesC {xs : List MixD} {a b c : List Int} : dMixes xs ++ [[.sl 1 (dInts a), .sl 1 (dInts b), .sl 1 (dSets c)]] = dMixes (xs ++ [⟨a, b, c⟩]) := sMixes (x := ⟨a, b, c⟩)
theorem sEntsC {xs : List EntD} {a b c : Int} {d : ByteArray} : dEnts xs ++ [[.v (.int .i64 a), .v (.int .i64 b), .v (.int .i64 c), .v (.string d)]] = dEnts (xs ++ [⟨a, b, c, d⟩]) := sEnts (x := ⟨a, b, c, d⟩)
end Go.Proofs.YtbafhclppppkgaaGreatDoor

namespace Go.Proofs.YtbafhclppppkgaaGreatDoor
open Go Go.RowKit
class FdC (s : TypeId) (f : Nat) (off : outParam Nat) (l : outParam (Option Nat)) : Prop where
 h : FdI Tryz.prog s f off l
class LdC (t : TypeId) : Prop where
 h : LdI Tryz.prog t none
class LdA (t : TypeId) (n : Nat) : Prop where
 h : LdI Tryz.prog t (some n)
class SzC (t : TypeId) (n : outParam Nat) : Prop where
 h : SzI Tryz.prog t n
class BoC (g : FuncId) : Prop where
 h : BoI Tryz.prog g
instance bo4 : BoC 4 := ⟨⟨by kernel_rfl⟩⟩
instance bo5 : BoC 5 := ⟨⟨by kernel_rfl⟩⟩
instance bo6 : BoC 6 := ⟨⟨by kernel_rfl⟩⟩
instance bo7 : BoC 7 := ⟨⟨by kernel_rfl⟩⟩
instance bo13 : BoC 13 := ⟨⟨by kernel_rfl⟩⟩
instance bo14 : BoC 14 := ⟨⟨by kernel_rfl⟩⟩
instance bo15 : BoC 15 := ⟨⟨by kernel_rfl⟩⟩
instance bo16 : BoC 16 := ⟨⟨by kernel_rfl⟩⟩
instance bo17 : BoC 17 := ⟨⟨by kernel_rfl⟩⟩
instance bo18 : BoC 18 := ⟨⟨by kernel_rfl⟩⟩
instance bo19 : BoC 19 := ⟨⟨by kernel_rfl⟩⟩
instance bo27 : BoC 27 := ⟨⟨by kernel_rfl⟩⟩
instance bo28 : BoC 28 := ⟨⟨by kernel_rfl⟩⟩
instance bo29 : BoC 29 := ⟨⟨by kernel_rfl⟩⟩
instance bo30 : BoC 30 := ⟨⟨by kernel_rfl⟩⟩
instance bo32 : BoC 32 := ⟨⟨by kernel_rfl⟩⟩
instance bo33 : BoC 33 := ⟨⟨by kernel_rfl⟩⟩
instance bo34 : BoC 34 := ⟨⟨by kernel_rfl⟩⟩
instance bo35 : BoC 35 := ⟨⟨by kernel_rfl⟩⟩
instance bo58 : BoC 58 := ⟨⟨by kernel_rfl⟩⟩
instance bo60 : BoC 60 := ⟨⟨by kernel_rfl⟩⟩
instance bo61 : BoC 61 := ⟨⟨by kernel_rfl⟩⟩
instance bo62 : BoC 62 := ⟨⟨by kernel_rfl⟩⟩
instance bo63 : BoC 63 := ⟨⟨by kernel_rfl⟩⟩
instance bo64 : BoC 64 := ⟨⟨by kernel_rfl⟩⟩
instance bo67 : BoC 67 := ⟨⟨by kernel_rfl⟩⟩
instance bo68 : BoC 68 := ⟨⟨by kernel_rfl⟩⟩
instance bo69 : BoC 69 := ⟨⟨by kernel_rfl⟩⟩
instance bo99 : BoC 99 := ⟨⟨by kernel_rfl⟩⟩
instance bo100 : BoC 100 := ⟨⟨by kernel_rfl⟩⟩
instance bo101 : BoC 101 := ⟨⟨by kernel_rfl⟩⟩
instance bo102 : BoC 102 := ⟨⟨by kernel_rfl⟩⟩
instance bo103 : BoC 103 := ⟨⟨by kernel_rfl⟩⟩
instance bo104 : BoC 104 := ⟨⟨by kernel_rfl⟩⟩
instance bo105 : BoC 105 := ⟨⟨by kernel_rfl⟩⟩
instance bo106 : BoC 106 := ⟨⟨by kernel_rfl⟩⟩
instance bo107 : BoC 107 := ⟨⟨by kernel_rfl⟩⟩
instance bo108 : BoC 108 := ⟨⟨by kernel_rfl⟩⟩
instance bo109 : BoC 109 := ⟨⟨by kernel_rfl⟩⟩
instance bo110 : BoC 110 := ⟨⟨by kernel_rfl⟩⟩
instance bo133 : BoC 133 := ⟨⟨by kernel_rfl⟩⟩
instance bo134 : BoC 134 := ⟨⟨by kernel_rfl⟩⟩
instance bo135 : BoC 135 := ⟨⟨by kernel_rfl⟩⟩
instance bo136 : BoC 136 := ⟨⟨by kernel_rfl⟩⟩
instance bo137 : BoC 137 := ⟨⟨by kernel_rfl⟩⟩
instance bo139 : BoC 139 := ⟨⟨by kernel_rfl⟩⟩
instance bo141 : BoC 141 := ⟨⟨by kernel_rfl⟩⟩
instance bo142 : BoC 142 := ⟨⟨by kernel_rfl⟩⟩
instance bo143 : BoC 143 := ⟨⟨by kernel_rfl⟩⟩
instance bo144 : BoC 144 := ⟨⟨by kernel_rfl⟩⟩
instance bo145 : BoC 145 := ⟨⟨by kernel_rfl⟩⟩
instance bo146 : BoC 146 := ⟨⟨by kernel_rfl⟩⟩
instance bo147 : BoC 147 := ⟨⟨by kernel_rfl⟩⟩
instance bo148 : BoC 148 := ⟨⟨by kernel_rfl⟩⟩
instance bo169 : BoC 169 := ⟨⟨by kernel_rfl⟩⟩
instance bo170 : BoC 170 := ⟨⟨by kernel_rfl⟩⟩
instance bo171 : BoC 171 := ⟨⟨by kernel_rfl⟩⟩
instance bo172 : BoC 172 := ⟨⟨by kernel_rfl⟩⟩
instance bo173 : BoC 173 := ⟨⟨by kernel_rfl⟩⟩
instance bo174 : BoC 174 := ⟨⟨by kernel_rfl⟩⟩
instance bo175 : BoC 175 := ⟨⟨by kernel_rfl⟩⟩
instance bo176 : BoC 176 := ⟨⟨by kernel_rfl⟩⟩
instance bo177 : BoC 177 := ⟨⟨by kernel_rfl⟩⟩
instance bo178 : BoC 178 := ⟨⟨by kernel_rfl⟩⟩
instance bo179 : BoC 179 := ⟨⟨by kernel_rfl⟩⟩
instance bo180 : BoC 180 := ⟨⟨by kernel_rfl⟩⟩
instance bo181 : BoC 181 := ⟨⟨by kernel_rfl⟩⟩
instance bo182 : BoC 182 := ⟨⟨by kernel_rfl⟩⟩
instance bo183 : BoC 183 := ⟨⟨by kernel_rfl⟩⟩
instance bo186 : BoC 186 := ⟨⟨by kernel_rfl⟩⟩
instance bo190 : BoC 190 := ⟨⟨by kernel_rfl⟩⟩
instance bo191 : BoC 191 := ⟨⟨by kernel_rfl⟩⟩
instance bo192 : BoC 192 := ⟨⟨by kernel_rfl⟩⟩
instance bo193 : BoC 193 := ⟨⟨by kernel_rfl⟩⟩
instance bo194 : BoC 194 := ⟨⟨by kernel_rfl⟩⟩
instance bo195 : BoC 195 := ⟨⟨by kernel_rfl⟩⟩
instance bo198 : BoC 198 := ⟨⟨by kernel_rfl⟩⟩
instance bo199 : BoC 199 := ⟨⟨by kernel_rfl⟩⟩
instance bo200 : BoC 200 := ⟨⟨by kernel_rfl⟩⟩
instance bo201 : BoC 201 := ⟨⟨by kernel_rfl⟩⟩
instance bo202 : BoC 202 := ⟨⟨by kernel_rfl⟩⟩
instance bo203 : BoC 203 := ⟨⟨by kernel_rfl⟩⟩
instance bo204 : BoC 204 := ⟨⟨by kernel_rfl⟩⟩
instance bo205 : BoC 205 := ⟨⟨by kernel_rfl⟩⟩
instance bo206 : BoC 206 := ⟨⟨by kernel_rfl⟩⟩
instance bo207 : BoC 207 := ⟨⟨by kernel_rfl⟩⟩
instance bo208 : BoC 208 := ⟨⟨by kernel_rfl⟩⟩
instance bo209 : BoC 209 := ⟨⟨by kernel_rfl⟩⟩
instance bo210 : BoC 210 := ⟨⟨by kernel_rfl⟩⟩
instance bo211 : BoC 211 := ⟨⟨by kernel_rfl⟩⟩
instance bo212 : BoC 212 := ⟨⟨by kernel_rfl⟩⟩
instance bo213 : BoC 213 := ⟨⟨by kernel_rfl⟩⟩
instance bo214 : BoC 214 := ⟨⟨by kernel_rfl⟩⟩
instance bo215 : BoC 215 := ⟨⟨by kernel_rfl⟩⟩
instance bo216 : BoC 216 := ⟨⟨by kernel_rfl⟩⟩
instance bo217 : BoC 217 := ⟨⟨by kernel_rfl⟩⟩
instance bo218 : BoC 218 := ⟨⟨by kernel_rfl⟩⟩
instance bo219 : BoC 219 := ⟨⟨by kernel_rfl⟩⟩
instance bo220 : BoC 220 := ⟨⟨by kernel_rfl⟩⟩
instance bo221 : BoC 221 := ⟨⟨by kernel_rfl⟩⟩
instance bo222 : BoC 222 := ⟨⟨by kernel_rfl⟩⟩
instance bo223 : BoC 223 := ⟨⟨by kernel_rfl⟩⟩
instance bo224 : BoC 224 := ⟨⟨by kernel_rfl⟩⟩
instance bo225 : BoC 225 := ⟨⟨by kernel_rfl⟩⟩
instance bo226 : BoC 226 := ⟨⟨by kernel_rfl⟩⟩
instance bo227 : BoC 227 := ⟨⟨by kernel_rfl⟩⟩
instance bo228 : BoC 228 := ⟨⟨by kernel_rfl⟩⟩
instance bo229 : BoC 229 := ⟨⟨by kernel_rfl⟩⟩
instance bo230 : BoC 230 := ⟨⟨by kernel_rfl⟩⟩
instance bo231 : BoC 231 := ⟨⟨by kernel_rfl⟩⟩
theorem ef22 : EfI Tryz.prog 22 3 1 8 [.d (.v (.int .i64 0))] := ⟨by kernel_rfl⟩
theorem ef26 : EfI Tryz.prog 26 66 3 24 [.d (.v (.int .i64 0)), .d (.v (.int .i64 0)), .d (.v (.int .i64 0))] := ⟨by kernel_rfl⟩
theorem ef53 : EfI Tryz.prog 53 133 1 1 [.d (.v (.int .u8 0))] := ⟨by kernel_rfl⟩
theorem ef60 : EfI Tryz.prog 60 98 4 32 [.d (.v (.int .i64 0)), .d (.v (.int .i64 0)), .d (.v (.bool false)), .d (.v (.int .i64 0))] := ⟨by kernel_rfl⟩
theorem ef72 : EfI Tryz.prog 72 79 3 40 [.zero, .d (.v (.int .i64 0)), .d (.v (.int .i64 0))] := ⟨by kernel_rfl⟩
theorem ef73 : EfI Tryz.prog 73 2 1 8 [.d (.v (.int .i64 0))] := ⟨by kernel_rfl⟩
theorem ef173 : EfI Tryz.prog 173 184 4 40 [.d (.v (.int .i64 0)), .d (.v (.int .i64 0)), .d (.v (.int .i64 0)), .d (.v (.string ByteArray.empty))] := ⟨by kernel_rfl⟩
theorem ef185 : EfI Tryz.prog 185 189 10 88 [.d (.v (.int .i64 0)), .d (.v (.int .i64 0)), .d (.v (.int .i64 0)), .d (.v (.int .i64 0)), .d (.v (.string ByteArray.empty)), .d (.v (.int .i64 0)), .d (.v (.int .i64 0)), .d (.v (.int .i64 0)), .d (.v (.int .i64 0)), .d (.v (.int .i64 0))] := ⟨by kernel_rfl⟩
theorem ef210 : EfI Tryz.prog 210 55 3 72 [.zero, .zero, .zero] := ⟨by kernel_rfl⟩
theorem ef213 : EfI Tryz.prog 213 128 3 24 [.d (.v (.int .i64 0)), .d (.v (.int .i64 0)), .d (.v (.int .i64 0))] := ⟨by kernel_rfl⟩
theorem ef269 : EfI Tryz.prog 269 147 7 56 [.d (.v (.int .i64 0)), .d (.v (.int .i64 0)), .d (.v (.int .i64 0)), .d (.v (.int .i64 0)), .d (.v (.int .i64 0)), .d (.v (.bool false)), .d (.v (.int .i64 0))] := ⟨by kernel_rfl⟩
theorem el22 : ElI Tryz.prog 22 1 := ⟨by kernel_rfl⟩
theorem el23 : ElI Tryz.prog 23 6 := ⟨by kernel_rfl⟩
theorem el26 : ElI Tryz.prog 26 3 := ⟨by kernel_rfl⟩
theorem el49 : ElI Tryz.prog 49 1 := ⟨by kernel_rfl⟩
theorem el52 : ElI Tryz.prog 52 1 := ⟨by kernel_rfl⟩
theorem el53 : ElI Tryz.prog 53 1 := ⟨by kernel_rfl⟩
theorem el60 : ElI Tryz.prog 60 4 := ⟨by kernel_rfl⟩
theorem el173 : ElI Tryz.prog 173 4 := ⟨by kernel_rfl⟩
theorem el210 : ElI Tryz.prog 210 3 := ⟨by kernel_rfl⟩
theorem el213 : ElI Tryz.prog 213 3 := ⟨by kernel_rfl⟩
theorem el269 : ElI Tryz.prog 269 7 := ⟨by kernel_rfl⟩
instance fd25_0 : FdC 25 0 0 none := ⟨⟨by kernel_rfl⟩⟩
instance fd25_1 : FdC 25 1 1 none := ⟨⟨by kernel_rfl⟩⟩
instance fd25_2 : FdC 25 2 2 none := ⟨⟨by kernel_rfl⟩⟩
instance fd25_3 : FdC 25 3 3 none := ⟨⟨by kernel_rfl⟩⟩
instance fd28_0 : FdC 28 0 0 (some 4) := ⟨⟨by kernel_rfl⟩⟩
instance fd28_1 : FdC 28 1 4 none := ⟨⟨by kernel_rfl⟩⟩
instance fd28_2 : FdC 28 2 5 none := ⟨⟨by kernel_rfl⟩⟩
instance fd28_3 : FdC 28 3 6 none := ⟨⟨by kernel_rfl⟩⟩
instance fd51_0 : FdC 51 0 0 none := ⟨⟨by kernel_rfl⟩⟩
instance fd51_1 : FdC 51 1 1 none := ⟨⟨by kernel_rfl⟩⟩
instance fd51_2 : FdC 51 2 2 none := ⟨⟨by kernel_rfl⟩⟩
instance fd51_3 : FdC 51 3 3 none := ⟨⟨by kernel_rfl⟩⟩
instance fd51_4 : FdC 51 4 4 none := ⟨⟨by kernel_rfl⟩⟩
instance fd51_5 : FdC 51 5 5 none := ⟨⟨by kernel_rfl⟩⟩
instance fd55_0 : FdC 55 0 0 none := ⟨⟨by kernel_rfl⟩⟩
instance fd55_1 : FdC 55 1 1 none := ⟨⟨by kernel_rfl⟩⟩
instance fd55_2 : FdC 55 2 2 none := ⟨⟨by kernel_rfl⟩⟩
instance fd57_0 : FdC 57 0 0 none := ⟨⟨by kernel_rfl⟩⟩
instance fd57_1 : FdC 57 1 1 none := ⟨⟨by kernel_rfl⟩⟩
instance fd57_2 : FdC 57 2 2 none := ⟨⟨by kernel_rfl⟩⟩
instance fd57_3 : FdC 57 3 3 none := ⟨⟨by kernel_rfl⟩⟩
instance fd57_4 : FdC 57 4 4 none := ⟨⟨by kernel_rfl⟩⟩
instance fd57_5 : FdC 57 5 5 none := ⟨⟨by kernel_rfl⟩⟩
instance fd57_6 : FdC 57 6 6 (some 3) := ⟨⟨by kernel_rfl⟩⟩
instance fd66_0 : FdC 66 0 0 none := ⟨⟨by kernel_rfl⟩⟩
instance fd66_1 : FdC 66 1 1 none := ⟨⟨by kernel_rfl⟩⟩
instance fd66_2 : FdC 66 2 2 none := ⟨⟨by kernel_rfl⟩⟩
instance fd75_9 : FdC 75 9 35 none := ⟨⟨by kernel_rfl⟩⟩
instance fd75_10 : FdC 75 10 36 none := ⟨⟨by kernel_rfl⟩⟩
instance fd82_9 : FdC 82 9 35 none := ⟨⟨by kernel_rfl⟩⟩
instance fd82_10 : FdC 82 10 36 none := ⟨⟨by kernel_rfl⟩⟩
instance fd147_0 : FdC 147 0 0 none := ⟨⟨by kernel_rfl⟩⟩
instance fd147_1 : FdC 147 1 1 none := ⟨⟨by kernel_rfl⟩⟩
instance fd147_2 : FdC 147 2 2 none := ⟨⟨by kernel_rfl⟩⟩
instance fd147_3 : FdC 147 3 3 none := ⟨⟨by kernel_rfl⟩⟩
instance fd147_4 : FdC 147 4 4 none := ⟨⟨by kernel_rfl⟩⟩
instance fd147_5 : FdC 147 5 5 none := ⟨⟨by kernel_rfl⟩⟩
instance fd147_6 : FdC 147 6 6 none := ⟨⟨by kernel_rfl⟩⟩
instance fd184_0 : FdC 184 0 0 none := ⟨⟨by kernel_rfl⟩⟩
instance fd184_2 : FdC 184 2 2 none := ⟨⟨by kernel_rfl⟩⟩
instance fd228_0 : FdC 228 0 0 (some 4) := ⟨⟨by kernel_rfl⟩⟩
instance fd228_1 : FdC 228 1 4 none := ⟨⟨by kernel_rfl⟩⟩
instance fd228_2 : FdC 228 2 5 (some 9) := ⟨⟨by kernel_rfl⟩⟩
instance fd284_0 : FdC 284 0 0 (some 4) := ⟨⟨by kernel_rfl⟩⟩
instance fd284_1 : FdC 284 1 4 none := ⟨⟨by kernel_rfl⟩⟩
instance fd284_2 : FdC 284 2 5 (some 9) := ⟨⟨by kernel_rfl⟩⟩
instance fd284_3 : FdC 284 3 14 none := ⟨⟨by kernel_rfl⟩⟩
instance fd293_0 : FdC 293 0 0 (some 4) := ⟨⟨by kernel_rfl⟩⟩
instance fd293_1 : FdC 293 1 4 none := ⟨⟨by kernel_rfl⟩⟩
instance fd293_2 : FdC 293 2 5 none := ⟨⟨by kernel_rfl⟩⟩
theorem ib4 : IbI Tryz.prog 4 := ⟨by kernel_rfl⟩
theorem ik2 : IkI Tryz.prog 2 .i64 := ⟨by kernel_rfl⟩
theorem ik3 : IkI Tryz.prog 3 .i64 := ⟨by kernel_rfl⟩
theorem ik5 : IkI Tryz.prog 5 .u8 := ⟨by kernel_rfl⟩
theorem ik136 : IkI Tryz.prog 136 .u32 := ⟨by kernel_rfl⟩
theorem ik139 : IkI Tryz.prog 139 .u64 := ⟨by kernel_rfl⟩
theorem is22 : IsI Tryz.prog 22 := ⟨by kernel_rfl⟩
theorem is26 : IsI Tryz.prog 26 := ⟨by kernel_rfl⟩
theorem is53 : IsI Tryz.prog 53 := ⟨by kernel_rfl⟩
theorem is60 : IsI Tryz.prog 60 := ⟨by kernel_rfl⟩
theorem is72 : IsI Tryz.prog 72 := ⟨by kernel_rfl⟩
theorem is73 : IsI Tryz.prog 73 := ⟨by kernel_rfl⟩
theorem is173 : IsI Tryz.prog 173 := ⟨by kernel_rfl⟩
theorem is185 : IsI Tryz.prog 185 := ⟨by kernel_rfl⟩
theorem is210 : IsI Tryz.prog 210 := ⟨by kernel_rfl⟩
theorem is213 : IsI Tryz.prog 213 := ⟨by kernel_rfl⟩
instance ld2 : LdC 2 := ⟨⟨by kernel_rfl⟩⟩
instance ld3 : LdC 3 := ⟨⟨by kernel_rfl⟩⟩
instance ld4 : LdC 4 := ⟨⟨by kernel_rfl⟩⟩
instance ld22 : LdC 22 := ⟨⟨by kernel_rfl⟩⟩
instance ld23 : LdC 23 := ⟨⟨by kernel_rfl⟩⟩
instance ld25 : LdA 25 4 := ⟨⟨by kernel_rfl⟩⟩
instance ld26 : LdC 26 := ⟨⟨by kernel_rfl⟩⟩
instance ld28 : LdA 28 7 := ⟨⟨by kernel_rfl⟩⟩
instance ld49 : LdC 49 := ⟨⟨by kernel_rfl⟩⟩
instance ld51 : LdA 51 6 := ⟨⟨by kernel_rfl⟩⟩
instance ld52 : LdC 52 := ⟨⟨by kernel_rfl⟩⟩
instance ld53 : LdC 53 := ⟨⟨by kernel_rfl⟩⟩
instance ld55 : LdA 55 3 := ⟨⟨by kernel_rfl⟩⟩
instance ld57 : LdA 57 9 := ⟨⟨by kernel_rfl⟩⟩
instance ld66 : LdA 66 3 := ⟨⟨by kernel_rfl⟩⟩
instance ld72 : LdC 72 := ⟨⟨by kernel_rfl⟩⟩
instance ld73 : LdC 73 := ⟨⟨by kernel_rfl⟩⟩
instance ld105 : LdA 105 3 := ⟨⟨by kernel_rfl⟩⟩
instance ld128 : LdA 128 3 := ⟨⟨by kernel_rfl⟩⟩
instance ld133 : LdC 133 := ⟨⟨by kernel_rfl⟩⟩
instance ld147 : LdA 147 7 := ⟨⟨by kernel_rfl⟩⟩
instance ld184 : LdA 184 4 := ⟨⟨by kernel_rfl⟩⟩
instance ld185 : LdC 185 := ⟨⟨by kernel_rfl⟩⟩
instance ld210 : LdC 210 := ⟨⟨by kernel_rfl⟩⟩
instance ld293 : LdA 293 6 := ⟨⟨by kernel_rfl⟩⟩
theorem ns2 : NsI Tryz.prog 2 := ⟨by kernel_rfl⟩
theorem ns133 : NsI Tryz.prog 133 := ⟨by kernel_rfl⟩
theorem pl25 : PlI Tryz.prog 25 [.zero, .zero, .zero, .zero] [(0, 1), (1, 1), (2, 1), (3, 1)] := ⟨by kernel_rfl⟩
theorem pl28 : PlI Tryz.prog 28 [.zero, .zero, .zero, .zero, .zero, .zero, .d (.v (.int .i64 0))] [(0, 4), (4, 1), (5, 1), (6, 1)] := ⟨by kernel_rfl⟩
theorem pl55 : PlI Tryz.prog 55 [.zero, .zero, .zero] [(0, 1), (1, 1), (2, 1)] := ⟨by kernel_rfl⟩
theorem pl57 : PlI Tryz.prog 57 [.zero, .d (.v (.int .i64 0)), .d (.v (.int .i64 0)), .d (.v (.int .i64 0)), .d (.v (.int .i64 0)), .d (.v (.int .i64 0)), .zero, .zero, .zero] [(0, 1), (1, 1), (2, 1), (3, 1), (4, 1), (5, 1), (6, 3)] := ⟨by kernel_rfl⟩
theorem pl66 : PlI Tryz.prog 66 [.d (.v (.int .i64 0)), .d (.v (.int .i64 0)), .d (.v (.int .i64 0))] [(0, 1), (1, 1), (2, 1)] := ⟨by kernel_rfl⟩
theorem pl68 : PlI Tryz.prog 68 [.d (.v (.int .i64 0)), .d (.v (.int .i64 0)), .d (.v (.int .i64 0))] [(0, 1), (1, 1), (2, 1)] := ⟨by kernel_rfl⟩
theorem pl69 : PlI Tryz.prog 69 [.d (.v (.bool false)), .d (.v (.bool false))] [(0, 1), (1, 1)] := ⟨by kernel_rfl⟩
theorem pl70 : PlI Tryz.prog 70 [.zero, .d (.v (.int .i64 0)), .d (.v (.int .i64 0)), .d (.v (.int .i64 0)), .d (.v (.int .i64 0)), .d (.v (.int .i64 0)), .zero, .zero, .zero, .zero, .d (.v (.int .i64 0)), .d (.v (.int .i64 0)), .d (.v (.int .i64 0)), .d (.v (.int .i64 0)), .d (.v (.int .i64 0)), .zero, .zero, .zero] [(0, 9), (9, 9)] := ⟨by kernel_rfl⟩
theorem pl75 : PlI Tryz.prog 75 [.zero, .zero, .zero, .zero, .zero, .zero, .d (.v (.int .i64 0)), .d (.v (.int .i64 0)), .d (.v (.int .i64 0)), .d (.v (.int .i64 0)), .d (.v (.int .i64 0)), .d (.v (.string ByteArray.empty)), .zero, .d (.v (.bool false)), .d (.v (.bool false)), .zero, .d (.v (.int .i64 0)), .d (.v (.int .i64 0)), .d (.v (.int .i64 0)), .d (.v (.int .i64 0)), .d (.v (.int .i64 0)), .zero, .zero, .zero, .zero, .d (.v (.int .i64 0)), .d (.v (.int .i64 0)), .d (.v (.int .i64 0)), .d (.v (.int .i64 0)), .d (.v (.int .i64 0)), .zero, .zero, .zero, .zero, .d (.v (.int .i64 0)), .zero, .zero, .zero] [(0, 7), (7, 1), (8, 3), (11, 1), (12, 1), (13, 2), (15, 18), (33, 1), (34, 1), (35, 1), (36, 1), (37, 1)] := ⟨by kernel_rfl⟩
theorem pl79 : PlI Tryz.prog 79 [.zero, .d (.v (.int .i64 0)), .d (.v (.int .i64 0))] [(0, 1), (1, 1), (2, 1)] := ⟨by kernel_rfl⟩
theorem pl82 : PlI Tryz.prog 82 [.zero, .zero, .zero, .zero, .zero, .zero, .d (.v (.int .i64 0)), .d (.v (.int .i64 0)), .d (.v (.int .i64 0)), .d (.v (.int .i64 0)), .d (.v (.int .i64 0)), .d (.v (.string ByteArray.empty)), .zero, .d (.v (.bool false)), .d (.v (.bool false)), .zero, .d (.v (.int .i64 0)), .d (.v (.int .i64 0)), .d (.v (.int .i64 0)), .d (.v (.int .i64 0)), .d (.v (.int .i64 0)), .zero, .zero, .zero, .zero, .d (.v (.int .i64 0)), .d (.v (.int .i64 0)), .d (.v (.int .i64 0)), .d (.v (.int .i64 0)), .d (.v (.int .i64 0)), .zero, .zero, .zero, .zero, .d (.v (.int .i64 0)), .zero, .zero, .zero] [(0, 7), (7, 1), (8, 3), (11, 1), (12, 1), (13, 2), (15, 18), (33, 1), (34, 1), (35, 1), (36, 1), (37, 1)] := ⟨by kernel_rfl⟩
theorem pl98 : PlI Tryz.prog 98 [.d (.v (.int .i64 0)), .d (.v (.int .i64 0)), .d (.v (.bool false)), .d (.v (.int .i64 0))] [(0, 1), (1, 1), (2, 1), (3, 1)] := ⟨by kernel_rfl⟩
theorem pl105 : PlI Tryz.prog 105 [.d (.v (.int .i64 0)), .d (.v (.int .i64 0)), .d (.v (.int .i64 0))] [(0, 1), (1, 1), (2, 1)] := ⟨by kernel_rfl⟩
theorem pl128 : PlI Tryz.prog 128 [.d (.v (.int .i64 0)), .d (.v (.int .i64 0)), .d (.v (.int .i64 0))] [(0, 1), (1, 1), (2, 1)] := ⟨by kernel_rfl⟩
theorem pl184 : PlI Tryz.prog 184 [.d (.v (.int .i64 0)), .d (.v (.int .i64 0)), .d (.v (.int .i64 0)), .d (.v (.string ByteArray.empty))] [(0, 1), (1, 1), (2, 1), (3, 1)] := ⟨by kernel_rfl⟩
theorem pl189 : PlI Tryz.prog 189 [.d (.v (.int .i64 0)), .d (.v (.int .i64 0)), .d (.v (.int .i64 0)), .d (.v (.int .i64 0)), .d (.v (.string ByteArray.empty)), .d (.v (.int .i64 0)), .d (.v (.int .i64 0)), .d (.v (.int .i64 0)), .d (.v (.int .i64 0)), .d (.v (.int .i64 0))] [(0, 1), (1, 4), (5, 3), (8, 1), (9, 1)] := ⟨by kernel_rfl⟩
theorem pl228 : PlI Tryz.prog 228 [.zero, .zero, .zero, .zero, .zero, .zero, .d (.v (.int .i64 0)), .d (.v (.int .i64 0)), .d (.v (.int .i64 0)), .d (.v (.int .i64 0)), .d (.v (.int .i64 0)), .zero, .zero, .zero] [(0, 4), (4, 1), (5, 9)] := ⟨by kernel_rfl⟩
theorem pl284 : PlI Tryz.prog 284 [.zero, .zero, .zero, .zero, .zero, .zero, .d (.v (.int .i64 0)), .d (.v (.int .i64 0)), .d (.v (.int .i64 0)), .d (.v (.int .i64 0)), .d (.v (.int .i64 0)), .zero, .zero, .zero, .zero] [(0, 4), (4, 1), (5, 9), (14, 1)] := ⟨by kernel_rfl⟩
theorem pl293 : PlI Tryz.prog 293 [.zero, .zero, .zero, .zero, .zero, .zero] [(0, 4), (4, 1), (5, 1)] := ⟨by kernel_rfl⟩
instance sz2 : SzC 2 1 := ⟨⟨by kernel_rfl⟩⟩
instance sz3 : SzC 3 1 := ⟨⟨by kernel_rfl⟩⟩
instance sz22 : SzC 22 1 := ⟨⟨by kernel_rfl⟩⟩
instance sz25 : SzC 25 4 := ⟨⟨by kernel_rfl⟩⟩
instance sz26 : SzC 26 1 := ⟨⟨by kernel_rfl⟩⟩
instance sz28 : SzC 28 7 := ⟨⟨by kernel_rfl⟩⟩
instance sz51 : SzC 51 6 := ⟨⟨by kernel_rfl⟩⟩
instance sz53 : SzC 53 1 := ⟨⟨by kernel_rfl⟩⟩
instance sz55 : SzC 55 3 := ⟨⟨by kernel_rfl⟩⟩
instance sz57 : SzC 57 9 := ⟨⟨by kernel_rfl⟩⟩
instance sz66 : SzC 66 3 := ⟨⟨by kernel_rfl⟩⟩
instance sz72 : SzC 72 1 := ⟨⟨by kernel_rfl⟩⟩
instance sz73 : SzC 73 1 := ⟨⟨by kernel_rfl⟩⟩
instance sz105 : SzC 105 3 := ⟨⟨by kernel_rfl⟩⟩
instance sz128 : SzC 128 3 := ⟨⟨by kernel_rfl⟩⟩
instance sz133 : SzC 133 1 := ⟨⟨by kernel_rfl⟩⟩
instance sz147 : SzC 147 7 := ⟨⟨by kernel_rfl⟩⟩
instance sz184 : SzC 184 4 := ⟨⟨by kernel_rfl⟩⟩
instance sz185 : SzC 185 1 := ⟨⟨by kernel_rfl⟩⟩
instance sz293 : SzC 293 6 := ⟨⟨by kernel_rfl⟩⟩
theorem zr25 : ZrI Tryz.prog 25 [.zero, .zero, .zero, .zero] := ⟨by kernel_rfl⟩
theorem zr28 : ZrI Tryz.prog 28 [.zero, .zero, .zero, .zero, .zero, .zero, .d (.v (.int .i64 0))] := ⟨by kernel_rfl⟩
theorem zr51 : ZrI Tryz.prog 51 [.d (.v (.int .i64 0)), .d (.v (.int .i64 0)), .d (.v (.int .i64 0)), .d (.v (.bool false)), .zero, .zero] := ⟨by kernel_rfl⟩
theorem zr55 : ZrI Tryz.prog 55 [.zero, .zero, .zero] := ⟨by kernel_rfl⟩
theorem zr57 : ZrI Tryz.prog 57 [.zero, .d (.v (.int .i64 0)), .d (.v (.int .i64 0)), .d (.v (.int .i64 0)), .d (.v (.int .i64 0)), .d (.v (.int .i64 0)), .zero, .zero, .zero] := ⟨by kernel_rfl⟩
theorem zr66 : ZrI Tryz.prog 66 [.d (.v (.int .i64 0)), .d (.v (.int .i64 0)), .d (.v (.int .i64 0))] := ⟨by kernel_rfl⟩
theorem zr105 : ZrI Tryz.prog 105 [.d (.v (.int .i64 0)), .d (.v (.int .i64 0)), .d (.v (.int .i64 0))] := ⟨by kernel_rfl⟩
theorem zr128 : ZrI Tryz.prog 128 [.d (.v (.int .i64 0)), .d (.v (.int .i64 0)), .d (.v (.int .i64 0))] := ⟨by kernel_rfl⟩
theorem zr147 : ZrI Tryz.prog 147 [.d (.v (.int .i64 0)), .d (.v (.int .i64 0)), .d (.v (.int .i64 0)), .d (.v (.int .i64 0)), .d (.v (.int .i64 0)), .d (.v (.bool false)), .d (.v (.int .i64 0))] := ⟨by kernel_rfl⟩
theorem zr184 : ZrI Tryz.prog 184 [.d (.v (.int .i64 0)), .d (.v (.int .i64 0)), .d (.v (.int .i64 0)), .d (.v (.string ByteArray.empty))] := ⟨by kernel_rfl⟩
theorem zr261 : ZrI Tryz.prog 261 [.d (.v (.int .i64 0)), .d (.v (.int .i64 0)), .d (.v (.int .i64 0))] := ⟨by kernel_rfl⟩
theorem zr293 : ZrI Tryz.prog 293 [.zero, .zero, .zero, .zero, .zero, .zero] := ⟨by kernel_rfl⟩
end Go.Proofs.YtbafhclppppkgaaGreatDoor

