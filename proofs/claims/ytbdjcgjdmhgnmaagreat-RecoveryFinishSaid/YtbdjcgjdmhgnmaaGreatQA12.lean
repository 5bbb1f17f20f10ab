/- Rules of runs and contracts of functions, for the claims of one seat. -/
import Derived.Test.YtbdjcgjdmhgnmaaGreatQA10
import Derived.Test.YtbdjcgjdmhgnmaaGreatQA11
namespace Go.Proofs.YtbdjcgjdmhgnmaaGreat
open Go Go.RowKit
set_option linter.unusedSimpArgs false
set_option linter.unusedVariables false
def nilL : LinkD := ⟨0, 0, 0, false, 0, 0⟩
def nilA : ActD := ⟨0, nilE, 0, 0, 0, 0, 0⟩
def nilG : SigD := ⟨0, 0, 0, 0, 0, false, 0⟩
def sigRow (s : SigD) : List D := [.v (.int .i64 s.kind), .v (.int .i64 s.token), .v (.int .i64 s.round), .v (.int .i64 s.replica), .v (.int .i64 s.ver), .v (.bool s.pass), .v (.int .i64 s.table)]
def dSigs (l : List SigD) : List (List D) := l.map sigRow
def dCtls (l : List CtlD) : List (List D) := l.map ctlRow
theorem rowsG {α : Type} {f : α → List D} {xs : List α} {n : Int} (d : α) (h : 0 ≤ n ∧ n < xs.length) : 0 ≤ n ∧ (xs.map f)[n.toNat]? = some (f (xs.getD n.toNat d)) := ⟨h.1, row_get h⟩
theorem rowsN {α : Type} {f : α → List D} {xs : List α} {n : Nat} (d : α) (h : n < xs.length) : (xs.map f)[n]? = some (f (xs.getD n d)) := row_getN h
theorem rowsZ {α : Type} {f : α → List D} {xs : List α} {n : Int} (d : α) (h : 0 ≤ n ∧ n < xs.length) : (xs.map f)[n.toNat]? = some (f (xs.getD n.toNat d)) := row_get h
theorem gInts {xs : List (Int)} {n : Int} (h : 0 ≤ n ∧ n < xs.length) : 0 ≤ n ∧ (dInts xs)[n.toNat]? = some ([.v (.int .i64 (xs.getD n.toNat 0))]) := rowsG 0 h
theorem gIntsN {xs : List (Int)} {k : Nat} (h : k < xs.length) : 0 ≤ (k : Int) ∧ (dInts xs)[(k : Int).toNat]? = some ([.v (.int .i64 (xs.getD k 0))]) := ⟨Int.natCast_nonneg k, rowsN 0 h⟩
theorem zInts {xs : List (Int)} {n : Int} (h : 0 ≤ n ∧ n < xs.length) : (dInts xs)[n.toNat]? = some ([.v (.int .i64 (xs.getD n.toNat 0))]) := rowsZ 0 h
theorem lInts {xs : List (Int)} : (dInts xs).length = xs.length := List.length_map _
theorem aInts {xs ys : List (Int)} : dInts xs ++ dInts ys = dInts (xs ++ ys) := List.map_append.symm
theorem nInts {xs : List (Int)} {a b : Nat} : ((dInts xs).drop a).take b = dInts ((xs.drop a).take b) := by unfold dInts; rw [List.map_take, List.map_drop]
theorem sInts {xs : List (Int)} {x : Int} : dInts xs ++ [[.v (.int .i64 x)]] = dInts (xs ++ [x]) := aInts (ys := [x])
theorem oInts {x : Int} : [[.v (.int .i64 x)]] = dInts [x] := rfl
theorem wInts {xs : List (Int)} {j : Nat} {x : Int} : (dInts xs).set j ([.v (.int .i64 x)]) = dInts (xs.set j x) := List.map_set.symm
theorem gSets {xs : List (Int)} {n : Int} (h : 0 ≤ n ∧ n < xs.length) : 0 ≤ n ∧ (dSets xs)[n.toNat]? = some ([.v (.int .u8 (xs.getD n.toNat 0))]) := rowsG 0 h
theorem gSetsN {xs : List (Int)} {k : Nat} (h : k < xs.length) : 0 ≤ (k : Int) ∧ (dSets xs)[(k : Int).toNat]? = some ([.v (.int .u8 (xs.getD k 0))]) := ⟨Int.natCast_nonneg k, rowsN 0 h⟩
theorem zSets {xs : List (Int)} {n : Int} (h : 0 ≤ n ∧ n < xs.length) : (dSets xs)[n.toNat]? = some ([.v (.int .u8 (xs.getD n.toNat 0))]) := rowsZ 0 h
theorem lSets {xs : List (Int)} : (dSets xs).length = xs.length := List.length_map _
theorem aSets {xs ys : List (Int)} : dSets xs ++ dSets ys = dSets (xs ++ ys) := List.map_append.symm
theorem sSets {xs : List (Int)} {x : Int} : dSets xs ++ [[.v (.int .u8 x)]] = dSets (xs ++ [x]) := aSets (ys := [x])
theorem oSets {x : Int} : [[.v (.int .u8 x)]] = dSets [x] := rfl
theorem wSets {xs : List (Int)} {j : Nat} {x : Int} : (dSets xs).set j ([.v (.int .u8 x)]) = dSets (xs.set j x) := List.map_set.symm
theorem rSets {n : Nat} {x : Int} : List.replicate n ([.v (.int .u8 x)]) = dSets (List.replicate n x) := by unfold dSets; rw [List.map_replicate]
theorem gBools {xs : List (Bool)} {n : Int} (h : 0 ≤ n ∧ n < xs.length) : 0 ≤ n ∧ (dBools xs)[n.toNat]? = some ([.v (.bool (xs.getD n.toNat false))]) := rowsG false h
theorem gBoolsN {xs : List (Bool)} {k : Nat} (h : k < xs.length) : 0 ≤ (k : Int) ∧ (dBools xs)[(k : Int).toNat]? = some ([.v (.bool (xs.getD k false))]) := ⟨Int.natCast_nonneg k, rowsN false h⟩
theorem zBools {xs : List (Bool)} {n : Int} (h : 0 ≤ n ∧ n < xs.length) : (dBools xs)[n.toNat]? = some ([.v (.bool (xs.getD n.toNat false))]) := rowsZ false h
theorem lBools {xs : List (Bool)} : (dBools xs).length = xs.length := List.length_map _
theorem aBools {xs ys : List (Bool)} : dBools xs ++ dBools ys = dBools (xs ++ ys) := List.map_append.symm
theorem sBools {xs : List (Bool)} {x : Bool} : dBools xs ++ [[.v (.bool x)]] = dBools (xs ++ [x]) := aBools (ys := [x])
theorem oBools {x : Bool} : [[.v (.bool x)]] = dBools [x] := rfl
theorem wBools {xs : List (Bool)} {j : Nat} {x : Bool} : (dBools xs).set j ([.v (.bool x)]) = dBools (xs.set j x) := List.map_set.symm
theorem gMat {xs : List (List Bool)} {n : Int} (h : 0 ≤ n ∧ n < xs.length) : 0 ≤ n ∧ (dMat xs)[n.toNat]? = some ([.sl 1 (dBools (xs.getD n.toNat []))]) := rowsG [] h
theorem gMatN {xs : List (List Bool)} {k : Nat} (h : k < xs.length) : 0 ≤ (k : Int) ∧ (dMat xs)[(k : Int).toNat]? = some ([.sl 1 (dBools (xs.getD k []))]) := ⟨Int.natCast_nonneg k, rowsN [] h⟩
theorem zMat {xs : List (List Bool)} {n : Int} (h : 0 ≤ n ∧ n < xs.length) : (dMat xs)[n.toNat]? = some ([.sl 1 (dBools (xs.getD n.toNat []))]) := rowsZ [] h
theorem lMat {xs : List (List Bool)} : (dMat xs).length = xs.length := List.length_map _
theorem aMat {xs ys : List (List Bool)} : dMat xs ++ dMat ys = dMat (xs ++ ys) := List.map_append.symm
theorem sMat {xs : List (List Bool)} {x : List Bool} : dMat xs ++ [[.sl 1 (dBools x)]] = dMat (xs ++ [x]) := aMat (ys := [x])
theorem oMat {x : List Bool} : [[.sl 1 (dBools x)]] = dMat [x] := rfl
theorem wMat {xs : List (List Bool)} {j : Nat} {x : List Bool} : (dMat xs).set j ([.sl 1 (dBools x)]) = dMat (xs.set j x) := List.map_set.symm
theorem gTabs {xs : List (Tab)} {n : Int} (h : 0 ≤ n ∧ n < xs.length) : 0 ≤ n ∧ (dTabs xs)[n.toNat]? = some (tabRow (xs.getD n.toNat nilT)) := rowsG nilT h
theorem gTabsN {xs : List (Tab)} {k : Nat} (h : k < xs.length) : 0 ≤ (k : Int) ∧ (dTabs xs)[(k : Int).toNat]? = some (tabRow (xs.getD k nilT)) := ⟨Int.natCast_nonneg k, rowsN nilT h⟩
theorem zTabs {xs : List (Tab)} {n : Int} (h : 0 ≤ n ∧ n < xs.length) : (dTabs xs)[n.toNat]? = some (tabRow (xs.getD n.toNat nilT)) := rowsZ nilT h
theorem lTabs {xs : List (Tab)} : (dTabs xs).length = xs.length := List.length_map _
theorem aTabs {xs ys : List (Tab)} : dTabs xs ++ dTabs ys = dTabs (xs ++ ys) := List.map_append.symm
theorem sTabs {xs : List (Tab)} {x : Tab} : dTabs xs ++ [tabRow x] = dTabs (xs ++ [x]) := aTabs (ys := [x])
theorem wTabs {xs : List (Tab)} {j : Nat} {x : Tab} : (dTabs xs).set j (tabRow x) = dTabs (xs.set j x) := List.map_set.symm
theorem gMixes {xs : List (MixD)} {n : Int} (h : 0 ≤ n ∧ n < xs.length) : 0 ≤ n ∧ (dMixes xs)[n.toNat]? = some (mixRow (xs.getD n.toNat nilM)) := rowsG nilM h
theorem gMixesN {xs : List (MixD)} {k : Nat} (h : k < xs.length) : 0 ≤ (k : Int) ∧ (dMixes xs)[(k : Int).toNat]? = some (mixRow (xs.getD k nilM)) := ⟨Int.natCast_nonneg k, rowsN nilM h⟩
theorem zMixes {xs : List (MixD)} {n : Int} (h : 0 ≤ n ∧ n < xs.length) : (dMixes xs)[n.toNat]? = some (mixRow (xs.getD n.toNat nilM)) := rowsZ nilM h
theorem lMixes {xs : List (MixD)} : (dMixes xs).length = xs.length := List.length_map _
theorem aMixes {xs ys : List (MixD)} : dMixes xs ++ dMixes ys = dMixes (xs ++ ys) := List.map_append.symm
theorem sMixes {xs : List (MixD)} {x : MixD} : dMixes xs ++ [mixRow x] = dMixes (xs ++ [x]) := aMixes (ys := [x])
theorem wMixes {xs : List (MixD)} {j : Nat} {x : MixD} : (dMixes xs).set j (mixRow x) = dMixes (xs.set j x) := List.map_set.symm
theorem gSteps {xs : List (StepD)} {n : Int} (h : 0 ≤ n ∧ n < xs.length) : 0 ≤ n ∧ (dSteps xs)[n.toNat]? = some (stepRow (xs.getD n.toNat nilS)) := rowsG nilS h
theorem gStepsN {xs : List (StepD)} {k : Nat} (h : k < xs.length) : 0 ≤ (k : Int) ∧ (dSteps xs)[(k : Int).toNat]? = some (stepRow (xs.getD k nilS)) := ⟨Int.natCast_nonneg k, rowsN nilS h⟩
theorem zSteps {xs : List (StepD)} {n : Int} (h : 0 ≤ n ∧ n < xs.length) : (dSteps xs)[n.toNat]? = some (stepRow (xs.getD n.toNat nilS)) := rowsZ nilS h
theorem lSteps {xs : List (StepD)} : (dSteps xs).length = xs.length := List.length_map _
theorem aSteps {xs ys : List (StepD)} : dSteps xs ++ dSteps ys = dSteps (xs ++ ys) := List.map_append.symm
theorem sSteps {xs : List (StepD)} {x : StepD} : dSteps xs ++ [stepRow x] = dSteps (xs ++ [x]) := aSteps (ys := [x])
theorem wSteps {xs : List (StepD)} {j : Nat} {x : StepD} : (dSteps xs).set j (stepRow x) = dSteps (xs.set j x) := List.map_set.symm
theorem gNodes {xs : List (NodeD)} {n : Int} (h : 0 ≤ n ∧ n < xs.length) : 0 ≤ n ∧ (dNodes xs)[n.toNat]? = some (nodeRow (xs.getD n.toNat nilN)) := rowsG nilN h
theorem gNodesN {xs : List (NodeD)} {k : Nat} (h : k < xs.length) : 0 ≤ (k : Int) ∧ (dNodes xs)[(k : Int).toNat]? = some (nodeRow (xs.getD k nilN)) := ⟨Int.natCast_nonneg k, rowsN nilN h⟩
theorem zNodes {xs : List (NodeD)} {n : Int} (h : 0 ≤ n ∧ n < xs.length) : (dNodes xs)[n.toNat]? = some (nodeRow (xs.getD n.toNat nilN)) := rowsZ nilN h
theorem lNodes {xs : List (NodeD)} : (dNodes xs).length = xs.length := List.length_map _
theorem aNodes {xs ys : List (NodeD)} : dNodes xs ++ dNodes ys = dNodes (xs ++ ys) := List.map_append.symm
theorem sNodes {xs : List (NodeD)} {x : NodeD} : dNodes xs ++ [nodeRow x] = dNodes (xs ++ [x]) := aNodes (ys := [x])
theorem wNodes {xs : List (NodeD)} {j : Nat} {x : NodeD} : (dNodes xs).set j (nodeRow x) = dNodes (xs.set j x) := List.map_set.symm
theorem gConfs {xs : List (ConfD)} {n : Int} (h : 0 ≤ n ∧ n < xs.length) : 0 ≤ n ∧ (dConfs xs)[n.toNat]? = some (confRow (xs.getD n.toNat nilC)) := rowsG nilC h
theorem gConfsN {xs : List (ConfD)} {k : Nat} (h : k < xs.length) : 0 ≤ (k : Int) ∧ (dConfs xs)[(k : Int).toNat]? = some (confRow (xs.getD k nilC)) := ⟨Int.natCast_nonneg k, rowsN nilC h⟩
theorem zConfs {xs : List (ConfD)} {n : Int} (h : 0 ≤ n ∧ n < xs.length) : (dConfs xs)[n.toNat]? = some (confRow (xs.getD n.toNat nilC)) := rowsZ nilC h
theorem lConfs {xs : List (ConfD)} : (dConfs xs).length = xs.length := List.length_map _
theorem aConfs {xs ys : List (ConfD)} : dConfs xs ++ dConfs ys = dConfs (xs ++ ys) := List.map_append.symm
theorem sConfs {xs : List (ConfD)} {x : ConfD} : dConfs xs ++ [confRow x] = dConfs (xs ++ [x]) := aConfs (ys := [x])
theorem wConfs {xs : List (ConfD)} {j : Nat} {x : ConfD} : (dConfs xs).set j (confRow x) = dConfs (xs.set j x) := List.map_set.symm
theorem gEnts {xs : List (EntD)} {n : Int} (h : 0 ≤ n ∧ n < xs.length) : 0 ≤ n ∧ (dEnts xs)[n.toNat]? = some (entRow (xs.getD n.toNat nilE)) := rowsG nilE h
theorem gEntsN {xs : List (EntD)} {k : Nat} (h : k < xs.length) : 0 ≤ (k : Int) ∧ (dEnts xs)[(k : Int).toNat]? = some (entRow (xs.getD k nilE)) := ⟨Int.natCast_nonneg k, rowsN nilE h⟩
theorem zEnts {xs : List (EntD)} {n : Int} (h : 0 ≤ n ∧ n < xs.length) : (dEnts xs)[n.toNat]? = some (entRow (xs.getD n.toNat nilE)) := rowsZ nilE h
theorem lEnts {xs : List (EntD)} : (dEnts xs).length = xs.length := List.length_map _
theorem aEnts {xs ys : List (EntD)} : dEnts xs ++ dEnts ys = dEnts (xs ++ ys) := List.map_append.symm
theorem nEnts {xs : List (EntD)} {a b : Nat} : ((dEnts xs).drop a).take b = dEnts ((xs.drop a).take b) := by unfold dEnts; rw [List.map_take, List.map_drop]
theorem sEnts {xs : List (EntD)} {x : EntD} : dEnts xs ++ [entRow x] = dEnts (xs ++ [x]) := aEnts (ys := [x])
theorem wEnts {xs : List (EntD)} {j : Nat} {x : EntD} : (dEnts xs).set j (entRow x) = dEnts (xs.set j x) := List.map_set.symm
theorem gActs {xs : List (ActD)} {n : Int} (h : 0 ≤ n ∧ n < xs.length) : 0 ≤ n ∧ (dActs xs)[n.toNat]? = some (actRow (xs.getD n.toNat nilA)) := rowsG nilA h
theorem gActsN {xs : List (ActD)} {k : Nat} (h : k < xs.length) : 0 ≤ (k : Int) ∧ (dActs xs)[(k : Int).toNat]? = some (actRow (xs.getD k nilA)) := ⟨Int.natCast_nonneg k, rowsN nilA h⟩
theorem zActs {xs : List (ActD)} {n : Int} (h : 0 ≤ n ∧ n < xs.length) : (dActs xs)[n.toNat]? = some (actRow (xs.getD n.toNat nilA)) := rowsZ nilA h
theorem lActs {xs : List (ActD)} : (dActs xs).length = xs.length := List.length_map _
theorem aActs {xs ys : List (ActD)} : dActs xs ++ dActs ys = dActs (xs ++ ys) := List.map_append.symm
theorem wActs {xs : List (ActD)} {j : Nat} {x : ActD} : (dActs xs).set j (actRow x) = dActs (xs.set j x) := List.map_set.symm
theorem gCtls {xs : List (CtlD)} {n : Int} (h : 0 ≤ n ∧ n < xs.length) : 0 ≤ n ∧ (dCtls xs)[n.toNat]? = some (ctlRow (xs.getD n.toNat nilCtl)) := rowsG nilCtl h
theorem gCtlsN {xs : List (CtlD)} {k : Nat} (h : k < xs.length) : 0 ≤ (k : Int) ∧ (dCtls xs)[(k : Int).toNat]? = some (ctlRow (xs.getD k nilCtl)) := ⟨Int.natCast_nonneg k, rowsN nilCtl h⟩
theorem zCtls {xs : List (CtlD)} {n : Int} (h : 0 ≤ n ∧ n < xs.length) : (dCtls xs)[n.toNat]? = some (ctlRow (xs.getD n.toNat nilCtl)) := rowsZ nilCtl h
theorem lCtls {xs : List (CtlD)} : (dCtls xs).length = xs.length := List.length_map _
theorem aCtls {xs ys : List (CtlD)} : dCtls xs ++ dCtls ys = dCtls (xs ++ ys) := List.map_append.symm
theorem wCtls {xs : List (CtlD)} {j : Nat} {x : CtlD} : (dCtls xs).set j (ctlRow x) = dCtls (xs.set j x) := List.map_set.symm
theorem gLinks {xs : List (LinkD)} {n : Int} (h : 0 ≤ n ∧ n < xs.length) : 0 ≤ n ∧ (dLinks xs)[n.toNat]? = some (linkRow (xs.getD n.toNat nilL)) := rowsG nilL h
theorem gLinksN {xs : List (LinkD)} {k : Nat} (h : k < xs.length) : 0 ≤ (k : Int) ∧ (dLinks xs)[(k : Int).toNat]? = some (linkRow (xs.getD k nilL)) := ⟨Int.natCast_nonneg k, rowsN nilL h⟩
theorem zLinks {xs : List (LinkD)} {n : Int} (h : 0 ≤ n ∧ n < xs.length) : (dLinks xs)[n.toNat]? = some (linkRow (xs.getD n.toNat nilL)) := rowsZ nilL h
theorem lLinks {xs : List (LinkD)} : (dLinks xs).length = xs.length := List.length_map _
theorem wLinks {xs : List (LinkD)} {j : Nat} {x : LinkD} : (dLinks xs).set j (linkRow x) = dLinks (xs.set j x) := List.map_set.symm
theorem gSigs {xs : List (SigD)} {n : Int} (h : 0 ≤ n ∧ n < xs.length) : 0 ≤ n ∧ (dSigs xs)[n.toNat]? = some (sigRow (xs.getD n.toNat nilG)) := rowsG nilG h
theorem gSigsN {xs : List (SigD)} {k : Nat} (h : k < xs.length) : 0 ≤ (k : Int) ∧ (dSigs xs)[(k : Int).toNat]? = some (sigRow (xs.getD k nilG)) := ⟨Int.natCast_nonneg k, rowsN nilG h⟩
theorem zSigs {xs : List (SigD)} {n : Int} (h : 0 ≤ n ∧ n < xs.length) : (dSigs xs)[n.toNat]? = some (sigRow (xs.getD n.toNat nilG)) := rowsZ nilG h
theorem lSigs {xs : List (SigD)} : (dSigs xs).length = xs.length := List.length_map _
theorem wSigs {xs : List (SigD)} {j : Nat} {x : SigD} : (dSigs xs).set j (sigRow x) = dSigs (xs.set j x) := List.map_set.symm
theorem sStepsC {xs : List StepD} {a b c : Int} : dSteps xs ++ [[.v (.int .i64 a), .v (.int .i64 b), .v (.int .i64 c)]] = dSteps (xs ++ [⟨a, b, c⟩]) := sSteps (x := ⟨a, b, c⟩)
theorem sConfsC {xs : List ConfD} {a b c : Int} : dConfs xs ++ [[.v (.int .i64 a), .v (.int .i64 b), .v (.int .i64 c)]] = dConfs (xs ++ [⟨a, b, c⟩]) := sConfs (x := ⟨a, b, c⟩)
theorem sMixesC {xs : List MixD} {a b c : List Int} : dMixes xs ++ [[.sl 1 (dInts a), .sl 1 (dInts b), .sl 1 (dSets c)]] = dMixes (xs ++ [⟨a, b, c⟩]) := sMixes (x := ⟨a, b, c⟩)
theorem sTabsC {xs : List Tab} {a b c : Int} {d : Bool} {e f : List (List Bool)} : dTabs xs ++ [[.v (.int .i64 a), .v (.int .i64 b), .v (.int .i64 c), .v (.bool d), .sl 1 (dMat e), .sl 1 (dMat f)]] = dTabs (xs ++ [⟨a, b, c, d, e, f⟩]) := sTabs (x := ⟨a, b, c, d, e, f⟩)
theorem sEntsC {xs : List EntD} {a b c : Int} {d : ByteArray} : dEnts xs ++ [[.v (.int .i64 a), .v (.int .i64 b), .v (.int .i64 c), .v (.string d)]] = dEnts (xs ++ [⟨a, b, c, d⟩]) := sEnts (x := ⟨a, b, c, d⟩)
theorem sNodesC {xs : List NodeD} {a b : List Int} {c : List Int} {n k i v : Int} : dNodes xs ++ [[.sl 1 (dInts a), .sl 1 (dInts b), .sl 1 (dSets c), .v (.int .i64 n), .v (.int .i64 k), .v (.int .i64 i), .v (.int .i64 v)]] = dNodes (xs ++ [⟨⟨a, b, c⟩, n, ⟨k, i, v⟩⟩]) := sNodes (x := ⟨⟨a, b, c⟩, n, ⟨k, i, v⟩⟩)
end Go.Proofs.YtbdjcgjdmhgnmaaGreat

namespace Go.Proofs.YtbdjcgjdmhgnmaaGreat
open Go Go.RowKit
class FdC (s : TypeId) (f : Nat) (off : outParam Nat) (l : outParam (Option Nat)) : Prop where
 h : FdI Tryz.prog s f off l
class LdC (t : TypeId) : Prop where
 h : LdI Tryz.prog t none
class LdA (t : TypeId) (n : Nat) : Prop where
 h : LdI Tryz.prog t (some n)
class SzC (t : TypeId) (n : outParam Nat) : Prop where
 h : SzI Tryz.prog t n
class BoC (g : FuncId) : Prop where
 h : BoI Tryz.prog g
instance bo8 : BoC 8 := ⟨⟨by kernel_rfl⟩⟩
instance bo9 : BoC 9 := ⟨⟨by kernel_rfl⟩⟩
instance bo10 : BoC 10 := ⟨⟨by kernel_rfl⟩⟩
instance bo11 : BoC 11 := ⟨⟨by kernel_rfl⟩⟩
instance bo12 : BoC 12 := ⟨⟨by kernel_rfl⟩⟩
instance bo13 : BoC 13 := ⟨⟨by kernel_rfl⟩⟩
instance bo14 : BoC 14 := ⟨⟨by kernel_rfl⟩⟩
instance bo15 : BoC 15 := ⟨⟨by kernel_rfl⟩⟩
instance bo19 : BoC 19 := ⟨⟨by kernel_rfl⟩⟩
instance bo20 : BoC 20 := ⟨⟨by kernel_rfl⟩⟩
instance bo21 : BoC 21 := ⟨⟨by kernel_rfl⟩⟩
instance bo22 : BoC 22 := ⟨⟨by kernel_rfl⟩⟩
instance bo23 : BoC 23 := ⟨⟨by kernel_rfl⟩⟩
instance bo24 : BoC 24 := ⟨⟨by kernel_rfl⟩⟩
instance bo25 : BoC 25 := ⟨⟨by kernel_rfl⟩⟩
instance bo26 : BoC 26 := ⟨⟨by kernel_rfl⟩⟩
instance bo27 : BoC 27 := ⟨⟨by kernel_rfl⟩⟩
instance bo28 : BoC 28 := ⟨⟨by kernel_rfl⟩⟩
instance bo29 : BoC 29 := ⟨⟨by kernel_rfl⟩⟩
instance bo30 : BoC 30 := ⟨⟨by kernel_rfl⟩⟩
instance bo31 : BoC 31 := ⟨⟨by kernel_rfl⟩⟩
instance bo32 : BoC 32 := ⟨⟨by kernel_rfl⟩⟩
instance bo36 : BoC 36 := ⟨⟨by kernel_rfl⟩⟩
instance bo37 : BoC 37 := ⟨⟨by kernel_rfl⟩⟩
instance bo38 : BoC 38 := ⟨⟨by kernel_rfl⟩⟩
instance bo39 : BoC 39 := ⟨⟨by kernel_rfl⟩⟩
instance bo40 : BoC 40 := ⟨⟨by kernel_rfl⟩⟩
instance bo41 : BoC 41 := ⟨⟨by kernel_rfl⟩⟩
instance bo42 : BoC 42 := ⟨⟨by kernel_rfl⟩⟩
instance bo43 : BoC 43 := ⟨⟨by kernel_rfl⟩⟩
instance bo44 : BoC 44 := ⟨⟨by kernel_rfl⟩⟩
instance bo45 : BoC 45 := ⟨⟨by kernel_rfl⟩⟩
instance bo46 : BoC 46 := ⟨⟨by kernel_rfl⟩⟩
instance bo47 : BoC 47 := ⟨⟨by kernel_rfl⟩⟩
instance bo48 : BoC 48 := ⟨⟨by kernel_rfl⟩⟩
instance bo49 : BoC 49 := ⟨⟨by kernel_rfl⟩⟩
instance bo50 : BoC 50 := ⟨⟨by kernel_rfl⟩⟩
instance bo51 : BoC 51 := ⟨⟨by kernel_rfl⟩⟩
instance bo52 : BoC 52 := ⟨⟨by kernel_rfl⟩⟩
instance bo53 : BoC 53 := ⟨⟨by kernel_rfl⟩⟩
instance bo54 : BoC 54 := ⟨⟨by kernel_rfl⟩⟩
instance bo55 : BoC 55 := ⟨⟨by kernel_rfl⟩⟩
instance bo56 : BoC 56 := ⟨⟨by kernel_rfl⟩⟩
instance bo57 : BoC 57 := ⟨⟨by kernel_rfl⟩⟩
instance bo58 : BoC 58 := ⟨⟨by kernel_rfl⟩⟩
instance bo59 : BoC 59 := ⟨⟨by kernel_rfl⟩⟩
instance bo60 : BoC 60 := ⟨⟨by kernel_rfl⟩⟩
instance bo61 : BoC 61 := ⟨⟨by kernel_rfl⟩⟩
instance bo62 : BoC 62 := ⟨⟨by kernel_rfl⟩⟩
instance bo63 : BoC 63 := ⟨⟨by kernel_rfl⟩⟩
instance bo64 : BoC 64 := ⟨⟨by kernel_rfl⟩⟩
instance bo65 : BoC 65 := ⟨⟨by kernel_rfl⟩⟩
instance bo66 : BoC 66 := ⟨⟨by kernel_rfl⟩⟩
instance bo67 : BoC 67 := ⟨⟨by kernel_rfl⟩⟩
instance bo68 : BoC 68 := ⟨⟨by kernel_rfl⟩⟩
instance bo76 : BoC 76 := ⟨⟨by kernel_rfl⟩⟩
instance bo77 : BoC 77 := ⟨⟨by kernel_rfl⟩⟩
instance bo78 : BoC 78 := ⟨⟨by kernel_rfl⟩⟩
instance bo79 : BoC 79 := ⟨⟨by kernel_rfl⟩⟩
instance bo80 : BoC 80 := ⟨⟨by kernel_rfl⟩⟩
instance bo81 : BoC 81 := ⟨⟨by kernel_rfl⟩⟩
instance bo82 : BoC 82 := ⟨⟨by kernel_rfl⟩⟩
instance bo83 : BoC 83 := ⟨⟨by kernel_rfl⟩⟩
instance bo84 : BoC 84 := ⟨⟨by kernel_rfl⟩⟩
instance bo85 : BoC 85 := ⟨⟨by kernel_rfl⟩⟩
instance bo86 : BoC 86 := ⟨⟨by kernel_rfl⟩⟩
instance bo87 : BoC 87 := ⟨⟨by kernel_rfl⟩⟩
instance bo88 : BoC 88 := ⟨⟨by kernel_rfl⟩⟩
instance bo89 : BoC 89 := ⟨⟨by kernel_rfl⟩⟩
instance bo90 : BoC 90 := ⟨⟨by kernel_rfl⟩⟩
instance bo91 : BoC 91 := ⟨⟨by kernel_rfl⟩⟩
instance bo92 : BoC 92 := ⟨⟨by kernel_rfl⟩⟩
instance bo93 : BoC 93 := ⟨⟨by kernel_rfl⟩⟩
instance bo94 : BoC 94 := ⟨⟨by kernel_rfl⟩⟩
instance bo95 : BoC 95 := ⟨⟨by kernel_rfl⟩⟩
instance bo96 : BoC 96 := ⟨⟨by kernel_rfl⟩⟩
instance bo97 : BoC 97 := ⟨⟨by kernel_rfl⟩⟩
instance bo99 : BoC 99 := ⟨⟨by kernel_rfl⟩⟩
instance bo100 : BoC 100 := ⟨⟨by kernel_rfl⟩⟩
instance bo101 : BoC 101 := ⟨⟨by kernel_rfl⟩⟩
instance bo102 : BoC 102 := ⟨⟨by kernel_rfl⟩⟩
instance bo103 : BoC 103 := ⟨⟨by kernel_rfl⟩⟩
instance bo104 : BoC 104 := ⟨⟨by kernel_rfl⟩⟩
instance bo105 : BoC 105 := ⟨⟨by kernel_rfl⟩⟩
instance bo106 : BoC 106 := ⟨⟨by kernel_rfl⟩⟩
instance bo107 : BoC 107 := ⟨⟨by kernel_rfl⟩⟩
instance bo108 : BoC 108 := ⟨⟨by kernel_rfl⟩⟩
instance bo109 : BoC 109 := ⟨⟨by kernel_rfl⟩⟩
instance bo110 : BoC 110 := ⟨⟨by kernel_rfl⟩⟩
instance bo117 : BoC 117 := ⟨⟨by kernel_rfl⟩⟩
instance bo118 : BoC 118 := ⟨⟨by kernel_rfl⟩⟩
instance bo119 : BoC 119 := ⟨⟨by kernel_rfl⟩⟩
instance bo120 : BoC 120 := ⟨⟨by kernel_rfl⟩⟩
instance bo121 : BoC 121 := ⟨⟨by kernel_rfl⟩⟩
instance bo122 : BoC 122 := ⟨⟨by kernel_rfl⟩⟩
instance bo123 : BoC 123 := ⟨⟨by kernel_rfl⟩⟩
instance bo124 : BoC 124 := ⟨⟨by kernel_rfl⟩⟩
instance bo125 : BoC 125 := ⟨⟨by kernel_rfl⟩⟩
instance bo126 : BoC 126 := ⟨⟨by kernel_rfl⟩⟩
instance bo127 : BoC 127 := ⟨⟨by kernel_rfl⟩⟩
instance bo128 : BoC 128 := ⟨⟨by kernel_rfl⟩⟩
instance bo129 : BoC 129 := ⟨⟨by kernel_rfl⟩⟩
instance bo130 : BoC 130 := ⟨⟨by kernel_rfl⟩⟩
instance bo131 : BoC 131 := ⟨⟨by kernel_rfl⟩⟩
instance bo132 : BoC 132 := ⟨⟨by kernel_rfl⟩⟩
instance bo133 : BoC 133 := ⟨⟨by kernel_rfl⟩⟩
instance bo134 : BoC 134 := ⟨⟨by kernel_rfl⟩⟩
instance bo135 : BoC 135 := ⟨⟨by kernel_rfl⟩⟩
instance bo136 : BoC 136 := ⟨⟨by kernel_rfl⟩⟩
instance bo137 : BoC 137 := ⟨⟨by kernel_rfl⟩⟩
instance bo138 : BoC 138 := ⟨⟨by kernel_rfl⟩⟩
instance bo139 : BoC 139 := ⟨⟨by kernel_rfl⟩⟩
instance bo140 : BoC 140 := ⟨⟨by kernel_rfl⟩⟩
instance bo141 : BoC 141 := ⟨⟨by kernel_rfl⟩⟩
instance bo142 : BoC 142 := ⟨⟨by kernel_rfl⟩⟩
instance bo144 : BoC 144 := ⟨⟨by kernel_rfl⟩⟩
instance bo145 : BoC 145 := ⟨⟨by kernel_rfl⟩⟩
instance bo146 : BoC 146 := ⟨⟨by kernel_rfl⟩⟩
instance bo149 : BoC 149 := ⟨⟨by kernel_rfl⟩⟩
instance bo150 : BoC 150 := ⟨⟨by kernel_rfl⟩⟩
instance bo151 : BoC 151 := ⟨⟨by kernel_rfl⟩⟩
instance bo152 : BoC 152 := ⟨⟨by kernel_rfl⟩⟩
instance bo153 : BoC 153 := ⟨⟨by kernel_rfl⟩⟩
instance bo154 : BoC 154 := ⟨⟨by kernel_rfl⟩⟩
instance bo155 : BoC 155 := ⟨⟨by kernel_rfl⟩⟩
instance bo156 : BoC 156 := ⟨⟨by kernel_rfl⟩⟩
instance bo157 : BoC 157 := ⟨⟨by kernel_rfl⟩⟩
instance bo158 : BoC 158 := ⟨⟨by kernel_rfl⟩⟩
instance bo159 : BoC 159 := ⟨⟨by kernel_rfl⟩⟩
instance bo160 : BoC 160 := ⟨⟨by kernel_rfl⟩⟩
instance bo161 : BoC 161 := ⟨⟨by kernel_rfl⟩⟩
instance bo162 : BoC 162 := ⟨⟨by kernel_rfl⟩⟩
instance bo163 : BoC 163 := ⟨⟨by kernel_rfl⟩⟩
instance bo164 : BoC 164 := ⟨⟨by kernel_rfl⟩⟩
instance bo165 : BoC 165 := ⟨⟨by kernel_rfl⟩⟩
instance bo166 : BoC 166 := ⟨⟨by kernel_rfl⟩⟩
instance bo170 : BoC 170 := ⟨⟨by kernel_rfl⟩⟩
instance bo171 : BoC 171 := ⟨⟨by kernel_rfl⟩⟩
instance bo172 : BoC 172 := ⟨⟨by kernel_rfl⟩⟩
instance bo173 : BoC 173 := ⟨⟨by kernel_rfl⟩⟩
instance bo174 : BoC 174 := ⟨⟨by kernel_rfl⟩⟩
instance bo175 : BoC 175 := ⟨⟨by kernel_rfl⟩⟩
instance bo176 : BoC 176 := ⟨⟨by kernel_rfl⟩⟩
instance bo178 : BoC 178 := ⟨⟨by kernel_rfl⟩⟩
instance bo179 : BoC 179 := ⟨⟨by kernel_rfl⟩⟩
instance bo180 : BoC 180 := ⟨⟨by kernel_rfl⟩⟩
instance bo181 : BoC 181 := ⟨⟨by kernel_rfl⟩⟩
instance bo182 : BoC 182 := ⟨⟨by kernel_rfl⟩⟩
theorem ef28 : EfI Tryz.prog 28 50 4 40 [.d (.v (.int .i64 0)), .d (.v (.int .i64 0)), .d (.v (.int .i64 0)), .d (.v (.string ByteArray.empty))] := ⟨by kernel_rfl⟩
theorem ef29 : EfI Tryz.prog 29 3 1 8 [.d (.v (.int .i64 0))] := ⟨by kernel_rfl⟩
theorem ef30 : EfI Tryz.prog 30 147 6 80 [.d (.v (.int .i64 0)), .d (.v (.int .i64 0)), .d (.v (.int .i64 0)), .d (.v (.bool false)), .zero, .zero] := ⟨by kernel_rfl⟩
theorem ef33 : EfI Tryz.prog 33 78 3 24 [.d (.v (.int .i64 0)), .d (.v (.int .i64 0)), .d (.v (.int .i64 0))] := ⟨by kernel_rfl⟩
theorem ef34 : EfI Tryz.prog 34 44 9 136 [.zero, .d (.v (.int .i64 0)), .d (.v (.int .i64 0)), .d (.v (.int .i64 0)), .d (.v (.int .i64 0)), .d (.v (.int .i64 0)), .zero, .zero, .zero] := ⟨by kernel_rfl⟩
theorem ef40 : EfI Tryz.prog 40 162 1 1 [.d (.v (.int .u8 0))] := ⟨by kernel_rfl⟩
theorem ef60 : EfI Tryz.prog 60 76 10 88 [.d (.v (.int .i64 0)), .d (.v (.int .i64 0)), .d (.v (.int .i64 0)), .d (.v (.int .i64 0)), .d (.v (.string ByteArray.empty)), .d (.v (.int .i64 0)), .d (.v (.int .i64 0)), .d (.v (.int .i64 0)), .d (.v (.int .i64 0)), .d (.v (.int .i64 0))] := ⟨by kernel_rfl⟩
theorem ef94 : EfI Tryz.prog 94 64 7 56 [.d (.v (.int .i64 0)), .d (.v (.int .i64 0)), .d (.v (.int .i64 0)), .d (.v (.int .i64 0)), .d (.v (.int .i64 0)), .d (.v (.bool false)), .d (.v (.int .i64 0))] := ⟨by kernel_rfl⟩
theorem ef112 : EfI Tryz.prog 112 42 3 72 [.zero, .zero, .zero] := ⟨by kernel_rfl⟩
theorem ef145 : EfI Tryz.prog 145 166 1 24 [.zero] := ⟨by kernel_rfl⟩
theorem ef151 : EfI Tryz.prog 151 193 7 104 [.zero, .zero, .zero, .d (.v (.int .i64 0)), .d (.v (.int .i64 0)), .d (.v (.int .i64 0)), .d (.v (.int .i64 0))] := ⟨by kernel_rfl⟩
theorem ef166 : EfI Tryz.prog 166 4 1 1 [.d (.v (.bool false))] := ⟨by kernel_rfl⟩
theorem ef213 : EfI Tryz.prog 213 176 3 24 [.d (.v (.int .i64 0)), .d (.v (.int .i64 0)), .d (.v (.int .i64 0))] := ⟨by kernel_rfl⟩
theorem el22 : ElI Tryz.prog 22 1 := ⟨by kernel_rfl⟩
theorem el23 : ElI Tryz.prog 23 6 := ⟨by kernel_rfl⟩
theorem el28 : ElI Tryz.prog 28 4 := ⟨by kernel_rfl⟩
theorem el29 : ElI Tryz.prog 29 1 := ⟨by kernel_rfl⟩
theorem el30 : ElI Tryz.prog 30 6 := ⟨by kernel_rfl⟩
theorem el33 : ElI Tryz.prog 33 3 := ⟨by kernel_rfl⟩
theorem el34 : ElI Tryz.prog 34 9 := ⟨by kernel_rfl⟩
theorem el40 : ElI Tryz.prog 40 1 := ⟨by kernel_rfl⟩
theorem el60 : ElI Tryz.prog 60 10 := ⟨by kernel_rfl⟩
theorem el94 : ElI Tryz.prog 94 7 := ⟨by kernel_rfl⟩
theorem el112 : ElI Tryz.prog 112 3 := ⟨by kernel_rfl⟩
theorem el145 : ElI Tryz.prog 145 1 := ⟨by kernel_rfl⟩
theorem el151 : ElI Tryz.prog 151 7 := ⟨by kernel_rfl⟩
theorem el166 : ElI Tryz.prog 166 1 := ⟨by kernel_rfl⟩
theorem el213 : ElI Tryz.prog 213 3 := ⟨by kernel_rfl⟩
instance fd25_0 : FdC 25 0 0 none := ⟨⟨by kernel_rfl⟩⟩
instance fd25_1 : FdC 25 1 1 none := ⟨⟨by kernel_rfl⟩⟩
instance fd25_2 : FdC 25 2 2 none := ⟨⟨by kernel_rfl⟩⟩
instance fd25_3 : FdC 25 3 3 none := ⟨⟨by kernel_rfl⟩⟩
instance fd27_0 : FdC 27 0 0 (some 4) := ⟨⟨by kernel_rfl⟩⟩
instance fd27_1 : FdC 27 1 4 none := ⟨⟨by kernel_rfl⟩⟩
instance fd27_2 : FdC 27 2 5 none := ⟨⟨by kernel_rfl⟩⟩
instance fd32_0 : FdC 32 0 0 none := ⟨⟨by kernel_rfl⟩⟩
instance fd32_1 : FdC 32 1 1 none := ⟨⟨by kernel_rfl⟩⟩
instance fd32_2 : FdC 32 2 2 none := ⟨⟨by kernel_rfl⟩⟩
instance fd32_3 : FdC 32 3 3 none := ⟨⟨by kernel_rfl⟩⟩
instance fd36_0 : FdC 36 0 0 (some 4) := ⟨⟨by kernel_rfl⟩⟩
instance fd36_1 : FdC 36 1 4 none := ⟨⟨by kernel_rfl⟩⟩
instance fd36_2 : FdC 36 2 5 none := ⟨⟨by kernel_rfl⟩⟩
instance fd36_3 : FdC 36 3 6 none := ⟨⟨by kernel_rfl⟩⟩
instance fd36_4 : FdC 36 4 7 none := ⟨⟨by kernel_rfl⟩⟩
instance fd36_5 : FdC 36 5 8 none := ⟨⟨by kernel_rfl⟩⟩
instance fd42_0 : FdC 42 0 0 none := ⟨⟨by kernel_rfl⟩⟩
instance fd42_1 : FdC 42 1 1 none := ⟨⟨by kernel_rfl⟩⟩
instance fd42_2 : FdC 42 2 2 none := ⟨⟨by kernel_rfl⟩⟩
instance fd44_0 : FdC 44 0 0 none := ⟨⟨by kernel_rfl⟩⟩
instance fd44_1 : FdC 44 1 1 none := ⟨⟨by kernel_rfl⟩⟩
instance fd44_2 : FdC 44 2 2 none := ⟨⟨by kernel_rfl⟩⟩
instance fd44_3 : FdC 44 3 3 none := ⟨⟨by kernel_rfl⟩⟩
instance fd44_4 : FdC 44 4 4 none := ⟨⟨by kernel_rfl⟩⟩
instance fd44_5 : FdC 44 5 5 none := ⟨⟨by kernel_rfl⟩⟩
instance fd44_6 : FdC 44 6 6 (some 3) := ⟨⟨by kernel_rfl⟩⟩
instance fd50_0 : FdC 50 0 0 none := ⟨⟨by kernel_rfl⟩⟩
instance fd50_2 : FdC 50 2 2 none := ⟨⟨by kernel_rfl⟩⟩
instance fd64_0 : FdC 64 0 0 none := ⟨⟨by kernel_rfl⟩⟩
instance fd64_1 : FdC 64 1 1 none := ⟨⟨by kernel_rfl⟩⟩
instance fd64_2 : FdC 64 2 2 none := ⟨⟨by kernel_rfl⟩⟩
instance fd64_3 : FdC 64 3 3 none := ⟨⟨by kernel_rfl⟩⟩
instance fd64_4 : FdC 64 4 4 none := ⟨⟨by kernel_rfl⟩⟩
instance fd64_5 : FdC 64 5 5 none := ⟨⟨by kernel_rfl⟩⟩
instance fd64_6 : FdC 64 6 6 none := ⟨⟨by kernel_rfl⟩⟩
instance fd76_0 : FdC 76 0 0 none := ⟨⟨by kernel_rfl⟩⟩
instance fd76_1 : FdC 76 1 1 (some 4) := ⟨⟨by kernel_rfl⟩⟩
instance fd78_0 : FdC 78 0 0 none := ⟨⟨by kernel_rfl⟩⟩
instance fd78_1 : FdC 78 1 1 none := ⟨⟨by kernel_rfl⟩⟩
instance fd78_2 : FdC 78 2 2 none := ⟨⟨by kernel_rfl⟩⟩
instance fd83_0 : FdC 83 0 0 (some 4) := ⟨⟨by kernel_rfl⟩⟩
instance fd83_1 : FdC 83 1 4 none := ⟨⟨by kernel_rfl⟩⟩
instance fd83_2 : FdC 83 2 5 (some 9) := ⟨⟨by kernel_rfl⟩⟩
instance fd114_0 : FdC 114 0 0 (some 4) := ⟨⟨by kernel_rfl⟩⟩
instance fd114_1 : FdC 114 1 4 none := ⟨⟨by kernel_rfl⟩⟩
instance fd114_2 : FdC 114 2 5 none := ⟨⟨by kernel_rfl⟩⟩
instance fd140_0 : FdC 140 0 0 (some 4) := ⟨⟨by kernel_rfl⟩⟩
instance fd140_1 : FdC 140 1 4 none := ⟨⟨by kernel_rfl⟩⟩
instance fd140_2 : FdC 140 2 5 (some 9) := ⟨⟨by kernel_rfl⟩⟩
instance fd140_3 : FdC 140 3 14 none := ⟨⟨by kernel_rfl⟩⟩
instance fd144_0 : FdC 144 0 0 none := ⟨⟨by kernel_rfl⟩⟩
instance fd144_1 : FdC 144 1 1 none := ⟨⟨by kernel_rfl⟩⟩
instance fd144_2 : FdC 144 2 2 none := ⟨⟨by kernel_rfl⟩⟩
instance fd144_3 : FdC 144 3 3 none := ⟨⟨by kernel_rfl⟩⟩
instance fd144_4 : FdC 144 4 4 none := ⟨⟨by kernel_rfl⟩⟩
instance fd144_5 : FdC 144 5 5 none := ⟨⟨by kernel_rfl⟩⟩
instance fd147_0 : FdC 147 0 0 none := ⟨⟨by kernel_rfl⟩⟩
instance fd147_1 : FdC 147 1 1 none := ⟨⟨by kernel_rfl⟩⟩
instance fd147_2 : FdC 147 2 2 none := ⟨⟨by kernel_rfl⟩⟩
instance fd147_3 : FdC 147 3 3 none := ⟨⟨by kernel_rfl⟩⟩
instance fd147_4 : FdC 147 4 4 none := ⟨⟨by kernel_rfl⟩⟩
instance fd147_5 : FdC 147 5 5 none := ⟨⟨by kernel_rfl⟩⟩
instance fd193_0 : FdC 193 0 0 (some 3) := ⟨⟨by kernel_rfl⟩⟩
instance fd193_1 : FdC 193 1 3 none := ⟨⟨by kernel_rfl⟩⟩
instance fd193_2 : FdC 193 2 4 (some 3) := ⟨⟨by kernel_rfl⟩⟩
theorem ib4 : IbI Tryz.prog 4 := ⟨by kernel_rfl⟩
theorem ik2 : IkI Tryz.prog 2 .i64 := ⟨by kernel_rfl⟩
theorem ik3 : IkI Tryz.prog 3 .i64 := ⟨by kernel_rfl⟩
theorem ik5 : IkI Tryz.prog 5 .u8 := ⟨by kernel_rfl⟩
theorem ik162 : IkI Tryz.prog 162 .u8 := ⟨by kernel_rfl⟩
theorem is28 : IsI Tryz.prog 28 := ⟨by kernel_rfl⟩
theorem is29 : IsI Tryz.prog 29 := ⟨by kernel_rfl⟩
theorem is30 : IsI Tryz.prog 30 := ⟨by kernel_rfl⟩
theorem is33 : IsI Tryz.prog 33 := ⟨by kernel_rfl⟩
theorem is34 : IsI Tryz.prog 34 := ⟨by kernel_rfl⟩
theorem is40 : IsI Tryz.prog 40 := ⟨by kernel_rfl⟩
theorem is60 : IsI Tryz.prog 60 := ⟨by kernel_rfl⟩
theorem is112 : IsI Tryz.prog 112 := ⟨by kernel_rfl⟩
theorem is145 : IsI Tryz.prog 145 := ⟨by kernel_rfl⟩
theorem is151 : IsI Tryz.prog 151 := ⟨by kernel_rfl⟩
theorem is166 : IsI Tryz.prog 166 := ⟨by kernel_rfl⟩
theorem is213 : IsI Tryz.prog 213 := ⟨by kernel_rfl⟩
instance ld2 : LdC 2 := ⟨⟨by kernel_rfl⟩⟩
instance ld3 : LdC 3 := ⟨⟨by kernel_rfl⟩⟩
instance ld4 : LdC 4 := ⟨⟨by kernel_rfl⟩⟩
instance ld5 : LdC 5 := ⟨⟨by kernel_rfl⟩⟩
instance ld22 : LdC 22 := ⟨⟨by kernel_rfl⟩⟩
instance ld23 : LdC 23 := ⟨⟨by kernel_rfl⟩⟩
instance ld25 : LdA 25 4 := ⟨⟨by kernel_rfl⟩⟩
instance ld27 : LdA 27 6 := ⟨⟨by kernel_rfl⟩⟩
instance ld28 : LdC 28 := ⟨⟨by kernel_rfl⟩⟩
instance ld29 : LdC 29 := ⟨⟨by kernel_rfl⟩⟩
instance ld30 : LdC 30 := ⟨⟨by kernel_rfl⟩⟩
instance ld32 : LdA 32 4 := ⟨⟨by kernel_rfl⟩⟩
instance ld33 : LdC 33 := ⟨⟨by kernel_rfl⟩⟩
instance ld34 : LdC 34 := ⟨⟨by kernel_rfl⟩⟩
instance ld36 : LdA 36 9 := ⟨⟨by kernel_rfl⟩⟩
instance ld40 : LdC 40 := ⟨⟨by kernel_rfl⟩⟩
instance ld42 : LdA 42 3 := ⟨⟨by kernel_rfl⟩⟩
instance ld44 : LdA 44 9 := ⟨⟨by kernel_rfl⟩⟩
instance ld50 : LdA 50 4 := ⟨⟨by kernel_rfl⟩⟩
instance ld54 : LdC 54 := ⟨⟨by kernel_rfl⟩⟩
instance ld60 : LdC 60 := ⟨⟨by kernel_rfl⟩⟩
instance ld64 : LdA 64 7 := ⟨⟨by kernel_rfl⟩⟩
instance ld74 : LdA 74 3 := ⟨⟨by kernel_rfl⟩⟩
instance ld76 : LdA 76 10 := ⟨⟨by kernel_rfl⟩⟩
instance ld78 : LdA 78 3 := ⟨⟨by kernel_rfl⟩⟩
instance ld112 : LdC 112 := ⟨⟨by kernel_rfl⟩⟩
instance ld114 : LdA 114 6 := ⟨⟨by kernel_rfl⟩⟩
instance ld144 : LdA 144 6 := ⟨⟨by kernel_rfl⟩⟩
instance ld145 : LdC 145 := ⟨⟨by kernel_rfl⟩⟩
instance ld147 : LdA 147 6 := ⟨⟨by kernel_rfl⟩⟩
instance ld162 : LdC 162 := ⟨⟨by kernel_rfl⟩⟩
instance ld166 : LdC 166 := ⟨⟨by kernel_rfl⟩⟩
instance ld176 : LdA 176 3 := ⟨⟨by kernel_rfl⟩⟩
theorem ns162 : NsI Tryz.prog 162 := ⟨by kernel_rfl⟩
theorem pl27 : PlI Tryz.prog 27 [.zero, .zero, .zero, .zero, .zero, .zero] [(0, 4), (4, 1), (5, 1)] := ⟨by kernel_rfl⟩
theorem pl32 : PlI Tryz.prog 32 [.zero, .zero, .zero, .zero] [(0, 1), (1, 1), (2, 1), (3, 1)] := ⟨by kernel_rfl⟩
theorem pl36 : PlI Tryz.prog 36 [.zero, .zero, .zero, .zero, .zero, .zero, .zero, .zero, .zero] [(0, 4), (4, 1), (5, 1), (6, 1), (7, 1), (8, 1)] := ⟨by kernel_rfl⟩
theorem pl42 : PlI Tryz.prog 42 [.zero, .zero, .zero] [(0, 1), (1, 1), (2, 1)] := ⟨by kernel_rfl⟩
theorem pl44 : PlI Tryz.prog 44 [.zero, .d (.v (.int .i64 0)), .d (.v (.int .i64 0)), .d (.v (.int .i64 0)), .d (.v (.int .i64 0)), .d (.v (.int .i64 0)), .zero, .zero, .zero] [(0, 1), (1, 1), (2, 1), (3, 1), (4, 1), (5, 1), (6, 3)] := ⟨by kernel_rfl⟩
theorem pl50 : PlI Tryz.prog 50 [.d (.v (.int .i64 0)), .d (.v (.int .i64 0)), .d (.v (.int .i64 0)), .d (.v (.string ByteArray.empty))] [(0, 1), (1, 1), (2, 1), (3, 1)] := ⟨by kernel_rfl⟩
theorem pl64 : PlI Tryz.prog 64 [.d (.v (.int .i64 0)), .d (.v (.int .i64 0)), .d (.v (.int .i64 0)), .d (.v (.int .i64 0)), .d (.v (.int .i64 0)), .d (.v (.bool false)), .d (.v (.int .i64 0))] [(0, 1), (1, 1), (2, 1), (3, 1), (4, 1), (5, 1), (6, 1)] := ⟨by kernel_rfl⟩
theorem pl74 : PlI Tryz.prog 74 [.d (.v (.int .i64 0)), .d (.v (.int .i64 0)), .d (.v (.int .i64 0))] [(0, 1), (1, 1), (2, 1)] := ⟨by kernel_rfl⟩
theorem pl76 : PlI Tryz.prog 76 [.d (.v (.int .i64 0)), .d (.v (.int .i64 0)), .d (.v (.int .i64 0)), .d (.v (.int .i64 0)), .d (.v (.string ByteArray.empty)), .d (.v (.int .i64 0)), .d (.v (.int .i64 0)), .d (.v (.int .i64 0)), .d (.v (.int .i64 0)), .d (.v (.int .i64 0))] [(0, 1), (1, 4), (5, 3), (8, 1), (9, 1)] := ⟨by kernel_rfl⟩
theorem pl78 : PlI Tryz.prog 78 [.d (.v (.int .i64 0)), .d (.v (.int .i64 0)), .d (.v (.int .i64 0))] [(0, 1), (1, 1), (2, 1)] := ⟨by kernel_rfl⟩
theorem pl83 : PlI Tryz.prog 83 [.zero, .zero, .zero, .zero, .zero, .zero, .d (.v (.int .i64 0)), .d (.v (.int .i64 0)), .d (.v (.int .i64 0)), .d (.v (.int .i64 0)), .d (.v (.int .i64 0)), .zero, .zero, .zero] [(0, 4), (4, 1), (5, 9)] := ⟨by kernel_rfl⟩
theorem pl114 : PlI Tryz.prog 114 [.zero, .zero, .zero, .zero, .zero, .zero] [(0, 4), (4, 1), (5, 1)] := ⟨by kernel_rfl⟩
theorem pl140 : PlI Tryz.prog 140 [.zero, .zero, .zero, .zero, .zero, .zero, .d (.v (.int .i64 0)), .d (.v (.int .i64 0)), .d (.v (.int .i64 0)), .d (.v (.int .i64 0)), .d (.v (.int .i64 0)), .zero, .zero, .zero, .zero] [(0, 4), (4, 1), (5, 9), (14, 1)] := ⟨by kernel_rfl⟩
theorem pl147 : PlI Tryz.prog 147 [.d (.v (.int .i64 0)), .d (.v (.int .i64 0)), .d (.v (.int .i64 0)), .d (.v (.bool false)), .zero, .zero] [(0, 1), (1, 1), (2, 1), (3, 1), (4, 1), (5, 1)] := ⟨by kernel_rfl⟩
theorem pl176 : PlI Tryz.prog 176 [.d (.v (.int .i64 0)), .d (.v (.int .i64 0)), .d (.v (.int .i64 0))] [(0, 1), (1, 1), (2, 1)] := ⟨by kernel_rfl⟩
theorem pl193 : PlI Tryz.prog 193 [.zero, .zero, .zero, .d (.v (.int .i64 0)), .d (.v (.int .i64 0)), .d (.v (.int .i64 0)), .d (.v (.int .i64 0))] [(0, 3), (3, 1), (4, 3)] := ⟨by kernel_rfl⟩
instance sz2 : SzC 2 1 := ⟨⟨by kernel_rfl⟩⟩
instance sz3 : SzC 3 1 := ⟨⟨by kernel_rfl⟩⟩
instance sz4 : SzC 4 1 := ⟨⟨by kernel_rfl⟩⟩
instance sz28 : SzC 28 1 := ⟨⟨by kernel_rfl⟩⟩
instance sz29 : SzC 29 1 := ⟨⟨by kernel_rfl⟩⟩
instance sz30 : SzC 30 1 := ⟨⟨by kernel_rfl⟩⟩
instance sz32 : SzC 32 4 := ⟨⟨by kernel_rfl⟩⟩
instance sz33 : SzC 33 1 := ⟨⟨by kernel_rfl⟩⟩
instance sz34 : SzC 34 1 := ⟨⟨by kernel_rfl⟩⟩
instance sz36 : SzC 36 9 := ⟨⟨by kernel_rfl⟩⟩
instance sz40 : SzC 40 1 := ⟨⟨by kernel_rfl⟩⟩
instance sz42 : SzC 42 3 := ⟨⟨by kernel_rfl⟩⟩
instance sz44 : SzC 44 9 := ⟨⟨by kernel_rfl⟩⟩
instance sz50 : SzC 50 4 := ⟨⟨by kernel_rfl⟩⟩
instance sz60 : SzC 60 1 := ⟨⟨by kernel_rfl⟩⟩
instance sz64 : SzC 64 7 := ⟨⟨by kernel_rfl⟩⟩
instance sz74 : SzC 74 3 := ⟨⟨by kernel_rfl⟩⟩
instance sz76 : SzC 76 10 := ⟨⟨by kernel_rfl⟩⟩
instance sz78 : SzC 78 3 := ⟨⟨by kernel_rfl⟩⟩
instance sz114 : SzC 114 6 := ⟨⟨by kernel_rfl⟩⟩
instance sz144 : SzC 144 6 := ⟨⟨by kernel_rfl⟩⟩
instance sz145 : SzC 145 1 := ⟨⟨by kernel_rfl⟩⟩
instance sz147 : SzC 147 6 := ⟨⟨by kernel_rfl⟩⟩
instance sz162 : SzC 162 1 := ⟨⟨by kernel_rfl⟩⟩
instance sz176 : SzC 176 3 := ⟨⟨by kernel_rfl⟩⟩
theorem zr32 : ZrI Tryz.prog 32 [.zero, .zero, .zero, .zero] := ⟨by kernel_rfl⟩
theorem zr36 : ZrI Tryz.prog 36 [.zero, .zero, .zero, .zero, .zero, .zero, .zero, .zero, .zero] := ⟨by kernel_rfl⟩
theorem zr42 : ZrI Tryz.prog 42 [.zero, .zero, .zero] := ⟨by kernel_rfl⟩
theorem zr44 : ZrI Tryz.prog 44 [.zero, .d (.v (.int .i64 0)), .d (.v (.int .i64 0)), .d (.v (.int .i64 0)), .d (.v (.int .i64 0)), .d (.v (.int .i64 0)), .zero, .zero, .zero] := ⟨by kernel_rfl⟩
theorem zr50 : ZrI Tryz.prog 50 [.d (.v (.int .i64 0)), .d (.v (.int .i64 0)), .d (.v (.int .i64 0)), .d (.v (.string ByteArray.empty))] := ⟨by kernel_rfl⟩
theorem zr64 : ZrI Tryz.prog 64 [.d (.v (.int .i64 0)), .d (.v (.int .i64 0)), .d (.v (.int .i64 0)), .d (.v (.int .i64 0)), .d (.v (.int .i64 0)), .d (.v (.bool false)), .d (.v (.int .i64 0))] := ⟨by kernel_rfl⟩
theorem zr74 : ZrI Tryz.prog 74 [.d (.v (.int .i64 0)), .d (.v (.int .i64 0)), .d (.v (.int .i64 0))] := ⟨by kernel_rfl⟩
theorem zr76 : ZrI Tryz.prog 76 [.d (.v (.int .i64 0)), .d (.v (.int .i64 0)), .d (.v (.int .i64 0)), .d (.v (.int .i64 0)), .d (.v (.string ByteArray.empty)), .d (.v (.int .i64 0)), .d (.v (.int .i64 0)), .d (.v (.int .i64 0)), .d (.v (.int .i64 0)), .d (.v (.int .i64 0))] := ⟨by kernel_rfl⟩
theorem zr78 : ZrI Tryz.prog 78 [.d (.v (.int .i64 0)), .d (.v (.int .i64 0)), .d (.v (.int .i64 0))] := ⟨by kernel_rfl⟩
theorem zr114 : ZrI Tryz.prog 114 [.zero, .zero, .zero, .zero, .zero, .zero] := ⟨by kernel_rfl⟩
theorem zr144 : ZrI Tryz.prog 144 [.d (.v (.int .u8 0)), .d (.v (.int .u8 0)), .d (.v (.int .u8 0)), .d (.v (.bool false)), .d (.v (.int .u16 0)), .d (.v (.int .u16 0))] := ⟨by kernel_rfl⟩
theorem zr147 : ZrI Tryz.prog 147 [.d (.v (.int .i64 0)), .d (.v (.int .i64 0)), .d (.v (.int .i64 0)), .d (.v (.bool false)), .zero, .zero] := ⟨by kernel_rfl⟩
theorem zr176 : ZrI Tryz.prog 176 [.d (.v (.int .i64 0)), .d (.v (.int .i64 0)), .d (.v (.int .i64 0))] := ⟨by kernel_rfl⟩
end Go.Proofs.YtbdjcgjdmhgnmaaGreat

