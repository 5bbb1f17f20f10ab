/- Rules of runs and contracts of functions, for the claims of one seat. -/
import Derived.Test.YtngjhkgcfabciaaGreatQA10
import Derived.Test.YtngjhkgcfabciaaGreatQA11
namespace Go.Proofs.YtngjhkgcfabciaaGreat
open Go Go.RowKit
set_option linter.unusedSimpArgs false
set_option linter.unusedVariables false
def nilL : LinkD := ⟨0, 0, 0, false, 0, 0⟩
def nilA : ActD := ⟨0, nilE, 0, 0, 0, 0, 0⟩
def sigRow (s : SigD) : List D := [.v (.int .i64 s.kind), .v (.int .i64 s.token), .v (.int .i64 s.round), .v (.int .i64 s.replica), .v (.int .i64 s.ver), .v (.bool s.pass), .v (.int .i64 s.table)]
def dSigs (l : List SigD) : List (List D) := l.map sigRow
def dCtls (l : List CtlD) : List (List D) := l.map ctlRow
theorem rowsG {α : Type} {f : α → List D} {xs : List α} {n : Int} (d : α) (h : 0 ≤ n ∧ n < xs.length) : 0 ≤ n ∧ (xs.map f)[n.toNat]? = some (f (xs.getD n.toNat d)) := ⟨h.1, row_get h⟩
theorem rowsN {α : Type} {f : α → List D} {xs : List α} {n : Nat} (d : α) (h : n < xs.length) : (xs.map f)[n]? = some (f (xs.getD n d)) := row_getN h
theorem rowsZ {α : Type} {f : α → List D} {xs : List α} {n : Int} (d : α) (h : 0 ≤ n ∧ n < xs.length) : (xs.map f)[n.toNat]? = some (f (xs.getD n.toNat d)) := row_get h
theorem gInts {xs : List (Int)} {n : Int} (h : 0 ≤ n ∧ n < xs.length) : 0 ≤ n ∧ (dInts xs)[n.toNat]? = some ([.v (.int .i64 (xs.getD n.toNat 0))]) := rowsG 0 h
theorem gIntsN {xs : List (Int)} {k : Nat} (h : k < xs.length) : 0 ≤ (k : Int) ∧ (dInts xs)[(k : Int).toNat]? = some ([.v (.int .i64 (xs.getD k 0))]) := ⟨Int.natCast_nonneg k, rowsN 0 h⟩
theorem zInts {xs : List (Int)} {n : Int} (h : 0 ≤ n ∧ n < xs.length) : (dInts xs)[n.toNat]? = some ([.v (.int .i64 (xs.getD n.toNat 0))]) := rowsZ 0 h
theorem lInts {xs : List (Int)} : (dInts xs).length = xs.length := List.length_map _
theorem aInts {xs ys : List (Int)} : dInts xs ++ dInts ys = dInts (xs ++ ys) := List.map_append.symm
theorem nInts {xs : List (Int)} {a b : Nat} : ((dInts xs).drop a).take b = dInts ((xs.drop a).take b) := by unfold dInts; rw [List.map_take, List.map_drop]
theorem sInts {xs : List (Int)} {x : Int} : dInts xs ++ [[.v (.int .i64 x)]] = dInts (xs ++ [x]) := aInts (ys := [x])
theorem oInts {x : Int} : [[.v (.int .i64 x)]] = dInts [x] := rfl
theorem wInts {xs : List (Int)} {j : Nat} {x : Int} : (dInts xs).set j ([.v (.int .i64 x)]) = dInts (xs.set j x) := List.map_set.symm
theorem gSets {xs : List (Int)} {n : Int} (h : 0 ≤ n ∧ n < xs.length) : 0 ≤ n ∧ (dSets xs)[n.toNat]? = some ([.v (.int .u8 (xs.getD n.toNat 0))]) := rowsG 0 h
theorem gSetsN {xs : List (Int)} {k : Nat} (h : k < xs.length) : 0 ≤ (k : Int) ∧ (dSets xs)[(k : Int).toNat]? = some ([.v (.int .u8 (xs.getD k 0))]) := ⟨Int.natCast_nonneg k, rowsN 0 h⟩
theorem zSets {xs : List (Int)} {n : Int} (h : 0 ≤ n ∧ n < xs.length) : (dSets xs)[n.toNat]? = some ([.v (.int .u8 (xs.getD n.toNat 0))]) := rowsZ 0 h
theorem lSets {xs : List (Int)} : (dSets xs).length = xs.length := List.length_map _
theorem aSets {xs ys : List (Int)} : dSets xs ++ dSets ys = dSets (xs ++ ys) := List.map_append.symm
theorem sSets {xs : List (Int)} {x : Int} : dSets xs ++ [[.v (.int .u8 x)]] = dSets (xs ++ [x]) := aSets (ys := [x])
theorem oSets {x : Int} : [[.v (.int .u8 x)]] = dSets [x] := rfl
theorem wSets {xs : List (Int)} {j : Nat} {x : Int} : (dSets xs).set j ([.v (.int .u8 x)]) = dSets (xs.set j x) := List.map_set.symm
theorem rSets {n : Nat} {x : Int} : List.replicate n ([.v (.int .u8 x)]) = dSets (List.replicate n x) := by unfold dSets; rw [List.map_replicate]
theorem gBools {xs : List (Bool)} {n : Int} (h : 0 ≤ n ∧ n < xs.length) : 0 ≤ n ∧ (dBools xs)[n.toNat]? = some ([.v (.bool (xs.getD n.toNat false))]) := rowsG false h
theorem gBoolsN {xs : List (Bool)} {k : Nat} (h : k < xs.length) : 0 ≤ (k : Int) ∧ (dBools xs)[(k : Int).toNat]? = some ([.v (.bool (xs.getD k false))]) := ⟨Int.natCast_nonneg k, rowsN false h⟩
theorem zBools {xs : List (Bool)} {n : Int} (h : 0 ≤ n ∧ n < xs.length) : (dBools xs)[n.toNat]? = some ([.v (.bool (xs.getD n.toNat false))]) := rowsZ false h
theorem lBools {xs : List (Bool)} : (dBools xs).length = xs.length := List.length_map _
theorem aBools {xs ys : List (Bool)} : dBools xs ++ dBools ys = dBools (xs ++ ys) := List.map_append.symm
theorem sBools {xs : List (Bool)} {x : Bool} : dBools xs ++ [[.v (.bool x)]] = dBools (xs ++ [x]) := aBools (ys := [x])
theorem oBools {x : Bool} : [[.v (.bool x)]] = dBools [x] := rfl
theorem wBools {xs : List (Bool)} {j : Nat} {x : Bool} : (dBools xs).set j ([.v (.bool x)]) = dBools (xs.set j x) := List.map_set.symm
theorem gMat {xs : List (List Bool)} {n : Int} (h : 0 ≤ n ∧ n < xs.length) : 0 ≤ n ∧ (dMat xs)[n.toNat]? = some ([.sl 1 (dBools (xs.getD n.toNat []))]) := rowsG [] h
theorem gMatN {xs : List (List Bool)} {k : Nat} (h : k < xs.length) : 0 ≤ (k : Int) ∧ (dMat xs)[(k : Int).toNat]? = some ([.sl 1 (dBools (xs.getD k []))]) := ⟨Int.natCast_nonneg k, rowsN [] h⟩
theorem zMat {xs : List (List Bool)} {n : Int} (h : 0 ≤ n ∧ n < xs.length) : (dMat xs)[n.toNat]? = some ([.sl 1 (dBools (xs.getD n.toNat []))]) := rowsZ [] h
theorem lMat {xs : List (List Bool)} : (dMat xs).length = xs.length := List.length_map _
theorem aMat {xs ys : List (List Bool)} : dMat xs ++ dMat ys = dMat (xs ++ ys) := List.map_append.symm
theorem sMat {xs : List (List Bool)} {x : List Bool} : dMat xs ++ [[.sl 1 (dBools x)]] = dMat (xs ++ [x]) := aMat (ys := [x])
theorem oMat {x : List Bool} : [[.sl 1 (dBools x)]] = dMat [x] := rfl
theorem wMat {xs : List (List Bool)} {j : Nat} {x : List Bool} : (dMat xs).set j ([.sl 1 (dBools x)]) = dMat (xs.set j x) := List.map_set.symm
theorem gTabs {xs : List (Tab)} {n : Int} (h : 0 ≤ n ∧ n < xs.length) : 0 ≤ n ∧ (dTabs xs)[n.toNat]? = some (tabRow (xs.getD n.toNat nilT)) := rowsG nilT h
theorem gTabsN {xs : List (Tab)} {k : Nat} (h : k < xs.length) : 0 ≤ (k : Int) ∧ (dTabs xs)[(k : Int).toNat]? = some (tabRow (xs.getD k nilT)) := ⟨Int.natCast_nonneg k, rowsN nilT h⟩
theorem zTabs {xs : List (Tab)} {n : Int} (h : 0 ≤ n ∧ n < xs.length) : (dTabs xs)[n.toNat]? = some (tabRow (xs.getD n.toNat nilT)) := rowsZ nilT h
theorem lTabs {xs : List (Tab)} : (dTabs xs).length = xs.length := List.length_map _
theorem aTabs {xs ys : List (Tab)} : dTabs xs ++ dTabs ys = dTabs (xs ++ ys) := List.map_append.symm
theorem sTabs {xs : List (Tab)} {x : Tab} : dTabs xs ++ [tabRow x] = dTabs (xs ++ [x]) := aTabs (ys := [x])
theorem wTabs {xs : List (Tab)} {j : Nat} {x : Tab} : (dTabs xs).set j (tabRow x) = dTabs (xs.set j x) := List.map_set.symm
theorem gMixes {xs : List (MixD)} {n : Int} (h : 0 ≤ n ∧ n < xs.length) : 0 ≤ n ∧ (dMixes xs)[n.toNat]? = some (mixRow (xs.getD n.toNat nilM)) := rowsG nilM h
theorem gMixesN {xs : List (MixD)} {k : Nat} (h : k < xs.length) : 0 ≤ (k : Int) ∧ (dMixes xs)[(k : Int).toNat]? = some (mixRow (xs.getD k nilM)) := ⟨Int.natCast_nonneg k, rowsN nilM h⟩
theorem zMixes {xs : List (MixD)} {n : Int} (h : 0 ≤ n ∧ n < xs.length) : (dMixes xs)[n.toNat]? = some (mixRow (xs.getD n.toNat nilM)) := rowsZ nilM h
theorem lMixes {xs : List (MixD)} : (dMixes xs).length = xs.length := List.length_map _
theorem aMixes {xs ys : List (MixD)} : dMixes xs ++ dMixes ys = dMixes (xs ++ ys) := List.map_append.symm
theorem sMixes {xs : List (MixD)} {x : MixD} : dMixes xs ++ [mixRow x] = dMixes (xs ++ [x]) := aMixes (ys := [x])
theorem wMixes {xs : List (MixD)} {j : Nat} {x : MixD} : (dMixes xs).set j (mixRow x) = dMixes (xs.set j x) := List.map_set.symm
theorem gSteps {xs : List (StepD)} {n : Int} (h : 0 ≤ n ∧ n < xs.length) : 0 ≤ n ∧ (dSteps xs)[n.toNat]? = some (stepRow (xs.getD n.toNat nilS)) := rowsG nilS h
theorem gStepsN {xs : List (StepD)} {k : Nat} (h : k < xs.length) : 0 ≤ (k : Int) ∧ (dSteps xs)[(k : Int).toNat]? = some (stepRow (xs.getD k nilS)) := ⟨Int.natCast_nonneg k, rowsN nilS h⟩
theorem zSteps {xs : List (StepD)} {n : Int} (h : 0 ≤ n ∧ n < xs.length) : (dSteps xs)[n.toNat]? = some (stepRow (xs.getD n.toNat nilS)) := rowsZ nilS h
theorem lSteps {xs : List (StepD)} : (dSteps xs).length = xs.length := List.length_map _
theorem aSteps {xs ys : List (StepD)} : dSteps xs ++ dSteps ys = dSteps (xs ++ ys) := List.map_append.symm
theorem sSteps {xs : List (StepD)} {x : StepD} : dSteps xs ++ [stepRow x] = dSteps (xs ++ [x]) := aSteps (ys := [x])
theorem wSteps {xs : List (StepD)} {j : Nat} {x : StepD} : (dSteps xs).set j (stepRow x) = dSteps (xs.set j x) := List.map_set.symm
theorem gNodes {xs : List (NodeD)} {n : Int} (h : 0 ≤ n ∧ n < xs.length) : 0 ≤ n ∧ (dNodes xs)[n.toNat]? = some (nodeRow (xs.getD n.toNat nilN)) := rowsG nilN h
theorem gNodesN {xs : List (NodeD)} {k : Nat} (h : k < xs.length) : 0 ≤ (k : Int) ∧ (dNodes xs)[(k : Int).toNat]? = some (nodeRow (xs.getD k nilN)) := ⟨Int.natCast_nonneg k, rowsN nilN h⟩
theorem zNodes {xs : List (NodeD)} {n : Int} (h : 0 ≤ n ∧ n < xs.length) : (dNodes xs)[n.toNat]? = some (nodeRow (xs.getD n.toNat nilN)) := rowsZ nilN h
theorem lNodes {xs : List (NodeD)} : (dNodes xs).length = xs.length := List.length_map _
theorem aNodes {xs ys : List (NodeD)} : dNodes xs ++ dNodes ys = dNodes (xs ++ ys) := List.map_append.symm
theorem sNodes {xs : List (NodeD)} {x : NodeD} : dNodes xs ++ [nodeRow x] = dNodes (xs ++ [x]) := aNodes (ys := [x])
theorem wNodes {xs : List (NodeD)} {j : Nat} {x : NodeD} : (dNodes xs).set j (nodeRow x) = dNodes (xs.set j x) := List.map_set.symm
theorem gConfs {xs : List (ConfD)} {n : Int} (h : 0 ≤ n ∧ n < xs.length) : 0 ≤ n ∧ (dConfs xs)[n.toNat]? = some (confRow (xs.getD n.toNat nilC)) := rowsG nilC h
theorem gConfsN {xs : List (ConfD)} {k : Nat} (h : k < xs.length) : 0 ≤ (k : Int) ∧ (dConfs xs)[(k : Int).toNat]? = some (confRow (xs.getD k nilC)) := ⟨Int.natCast_nonneg k, rowsN nilC h⟩
theorem zConfs {xs : List (ConfD)} {n : Int} (h : 0 ≤ n ∧ n < xs.length) : (dConfs xs)[n.toNat]? = some (confRow (xs.getD n.toNat nilC)) := rowsZ nilC h
theorem lConfs {xs : List (ConfD)} : (dConfs xs).length = xs.length := List.length_map _
theorem aConfs {xs ys : List (ConfD)} : dConfs xs ++ dConfs ys = dConfs (xs ++ ys) := List.map_append.symm
theorem sConfs {xs : List (ConfD)} {x : ConfD} : dConfs xs ++ [confRow x] = dConfs (xs ++ [x]) := aConfs (ys := [x])
theorem wConfs {xs : List (ConfD)} {j : Nat} {x : ConfD} : (dConfs xs).set j (confRow x) = dConfs (xs.set j x) := List.map_set.symm
theorem gEnts {xs : List (EntD)} {n : Int} (h : 0 ≤ n ∧ n < xs.length) : 0 ≤ n ∧ (dEnts xs)[n.toNat]? = some (entRow (xs.getD n.toNat nilE)) := rowsG nilE h
theorem gEntsN {xs : List (EntD)} {k : Nat} (h : k < xs.length) : 0 ≤ (k : Int) ∧ (dEnts xs)[(k : Int).toNat]? = some (entRow (xs.getD k nilE)) := ⟨Int.natCast_nonneg k, rowsN nilE h⟩
theorem zEnts {xs : List (EntD)} {n : Int} (h : 0 ≤ n ∧ n < xs.length) : (dEnts xs)[n.toNat]? = some (entRow (xs.getD n.toNat nilE)) := rowsZ nilE h
theorem lEnts {xs : List (EntD)} : (dEnts xs).length = xs.length := List.length_map _
theorem aEnts {xs ys : List (EntD)} : dEnts xs ++ dEnts ys = dEnts (xs ++ ys) := List.map_append.symm
theorem sEnts {xs : List (EntD)} {x : EntD} : dEnts xs ++ [entRow x] = dEnts (xs ++ [x]) := aEnts (ys := [x])
theorem wEnts {xs : List (EntD)} {j : Nat} {x : EntD} : (dEnts xs).set j (entRow x) = dEnts (xs.set j x) := List.map_set.symm
theorem gActs {xs : List (ActD)} {n : Int} (h : 0 ≤ n ∧ n < xs.length) : 0 ≤ n ∧ (dActs xs)[n.toNat]? = some (actRow (xs.getD n.toNat nilA)) := rowsG nilA h
theorem gActsN {xs : List (ActD)} {k : Nat} (h : k < xs.length) : 0 ≤ (k : Int) ∧ (dActs xs)[(k : Int).toNat]? = some (actRow (xs.getD k nilA)) := ⟨Int.natCast_nonneg k, rowsN nilA h⟩
theorem zActs {xs : List (ActD)} {n : Int} (h : 0 ≤ n ∧ n < xs.length) : (dActs xs)[n.toNat]? = some (actRow (xs.getD n.toNat nilA)) := rowsZ nilA h
theorem lActs {xs : List (ActD)} : (dActs xs).length = xs.length := List.length_map _
theorem aActs {xs ys : List (ActD)} : dActs xs ++ dActs ys = dActs (xs ++ ys) := List.map_append.symm
theorem wActs {xs : List (ActD)} {j : Nat} {x : ActD} : (dActs xs).set j (actRow x) = dActs (xs.set j x) := List.map_set.symm
theorem zCtls {xs : List (CtlD)} {n : Int} (h : 0 ≤ n ∧ n < xs.length) : (dCtls xs)[n.toNat]? = some (ctlRow (xs.getD n.toNat nilCtl)) := rowsZ nilCtl h
theorem lCtls {xs : List (CtlD)} : (dCtls xs).length = xs.length := List.length_map _
theorem aCtls {xs ys : List (CtlD)} : dCtls xs ++ dCtls ys = dCtls (xs ++ ys) := List.map_append.symm
theorem wCtls {xs : List (CtlD)} {j : Nat} {x : CtlD} : (dCtls xs).set j (ctlRow x) = dCtls (xs.set j x) := List.map_set.symm
theorem gLinks {xs : List (LinkD)} {n : Int} (h : 0 ≤ n ∧ n < xs.length) : 0 ≤ n ∧ (dLinks xs)[n.toNat]? = some (linkRow (xs.getD n.toNat nilL)) := rowsG nilL h
theorem gLinksN {xs : List (LinkD)} {k : Nat} (h : k < xs.length) : 0 ≤ (k : Int) ∧ (dLinks xs)[(k : Int).toNat]? = some (linkRow (xs.getD k nilL)) := ⟨Int.natCast_nonneg k, rowsN nilL h⟩
theorem zLinks {xs : List (LinkD)} {n : Int} (h : 0 ≤ n ∧ n < xs.length) : (dLinks xs)[n.toNat]? = some (linkRow (xs.getD n.toNat nilL)) := rowsZ nilL h
theorem lLinks {xs : List (LinkD)} : (dLinks xs).length = xs.length := List.length_map _
theorem wLinks {xs : List (LinkD)} {j : Nat} {x : LinkD} : (dLinks xs).set j (linkRow x) = dLinks (xs.set j x) := List.map_set.symm
theorem lSigs {xs : List (SigD)} : (dSigs xs).length = xs.length := List.length_map _
theorem sStepsC {xs : List StepD} {a b c : Int} : dSteps xs ++ [[.v (.int .i64 a), .v (.int .i64 b), .v (.int .i64 c)]] = dSteps (xs ++ [⟨a, b, c⟩]) := sSteps (x := ⟨a, b, c⟩)
theorem sConfsC {xs : List ConfD} {a b c : Int} : dConfs xs ++ [[.v (.int .i64 a), .v (.int .i64 b), .v (.int .i64 c)]] = dConfs (xs ++ [⟨a, b, c⟩]) := sConfs (x := ⟨a, b, c⟩)
theorem sMixesC {xs : List MixD} {a b c : List Int} : dMixes xs ++ [[.sl 1 (dInts a), .sl 1 (dInts b), .sl 1 (dSets c)]] = dMixes (xs ++ [⟨a, b, c⟩]) := sMixes (x := ⟨a, b, c⟩)
theorem sTabsC {xs : List Tab} {a b c : Int} {d : Bool} {e f : List (List Bool)} : dTabs xs ++ [[.v (.int .i64 a), .v (.int .i64 b), .v (.int .i64 c), .v (.bool d), .sl 1 (dMat e), .sl 1 (dMat f)]] = dTabs (xs ++ [⟨a, b, c, d, e, f⟩]) := sTabs (x := ⟨a, b, c, d, e, f⟩)
theorem sEntsC {xs : List EntD} {a b c : Int} {d : ByteArray} : dEnts xs ++ [[.v (.int .i64 a), .v (.int .i64 b), .v (.int .i64 c), .v (.string d)]] = dEnts (xs ++ [⟨a, b, c, d⟩]) := sEnts (x := ⟨a, b, c, d⟩)
theorem sNodesC {xs : List NodeD} {a b : List Int} {c : List Int} {n k i v : Int} : dNodes xs ++ [[.sl 1 (dInts a), .sl 1 (dInts b), .sl 1 (dSets c), .v (.int .i64 n), .v (.int .i64 k), .v (.int .i64 i), .v (.int .i64 v)]] = dNodes (xs ++ [⟨⟨a, b, c⟩, n, ⟨k, i, v⟩⟩]) := sNodes (x := ⟨⟨a, b, c⟩, n, ⟨k, i, v⟩⟩)
end Go.Proofs.YtngjhkgcfabciaaGreat

namespace Go.Proofs.YtngjhkgcfabciaaGreat
open Go Go.RowKit
class FdC (s : TypeId) (f : Nat) (off : outParam Nat) (l : outParam (Option Nat)) : Prop where
 h : FdI Tryz.prog s f off l
class LdC (t : TypeId) : Prop where
 h : LdI Tryz.prog t none
class LdA (t : TypeId) (n : Nat) : Prop where
 h : LdI Tryz.prog t (some n)
class SzC (t : TypeId) (n : outParam Nat) : Prop where
 h : SzI Tryz.prog t n
class BoC (g : FuncId) : Prop where
 h : BoI Tryz.prog g
instance bo4 : BoC 4 := ⟨⟨by kernel_rfl⟩⟩
instance bo5 : BoC 5 := ⟨⟨by kernel_rfl⟩⟩
instance bo6 : BoC 6 := ⟨⟨by kernel_rfl⟩⟩
instance bo7 : BoC 7 := ⟨⟨by kernel_rfl⟩⟩
instance bo8 : BoC 8 := ⟨⟨by kernel_rfl⟩⟩
instance bo9 : BoC 9 := ⟨⟨by kernel_rfl⟩⟩
instance bo10 : BoC 10 := ⟨⟨by kernel_rfl⟩⟩
instance bo11 : BoC 11 := ⟨⟨by kernel_rfl⟩⟩
instance bo12 : BoC 12 := ⟨⟨by kernel_rfl⟩⟩
instance bo13 : BoC 13 := ⟨⟨by kernel_rfl⟩⟩
instance bo14 : BoC 14 := ⟨⟨by kernel_rfl⟩⟩
instance bo15 : BoC 15 := ⟨⟨by kernel_rfl⟩⟩
instance bo16 : BoC 16 := ⟨⟨by kernel_rfl⟩⟩
instance bo17 : BoC 17 := ⟨⟨by kernel_rfl⟩⟩
instance bo18 : BoC 18 := ⟨⟨by kernel_rfl⟩⟩
instance bo19 : BoC 19 := ⟨⟨by kernel_rfl⟩⟩
instance bo20 : BoC 20 := ⟨⟨by kernel_rfl⟩⟩
instance bo21 : BoC 21 := ⟨⟨by kernel_rfl⟩⟩
instance bo22 : BoC 22 := ⟨⟨by kernel_rfl⟩⟩
instance bo23 : BoC 23 := ⟨⟨by kernel_rfl⟩⟩
instance bo24 : BoC 24 := ⟨⟨by kernel_rfl⟩⟩
instance bo25 : BoC 25 := ⟨⟨by kernel_rfl⟩⟩
instance bo26 : BoC 26 := ⟨⟨by kernel_rfl⟩⟩
instance bo27 : BoC 27 := ⟨⟨by kernel_rfl⟩⟩
instance bo28 : BoC 28 := ⟨⟨by kernel_rfl⟩⟩
instance bo29 : BoC 29 := ⟨⟨by kernel_rfl⟩⟩
instance bo30 : BoC 30 := ⟨⟨by kernel_rfl⟩⟩
instance bo31 : BoC 31 := ⟨⟨by kernel_rfl⟩⟩
instance bo32 : BoC 32 := ⟨⟨by kernel_rfl⟩⟩
instance bo33 : BoC 33 := ⟨⟨by kernel_rfl⟩⟩
instance bo34 : BoC 34 := ⟨⟨by kernel_rfl⟩⟩
instance bo35 : BoC 35 := ⟨⟨by kernel_rfl⟩⟩
instance bo36 : BoC 36 := ⟨⟨by kernel_rfl⟩⟩
instance bo37 : BoC 37 := ⟨⟨by kernel_rfl⟩⟩
instance bo38 : BoC 38 := ⟨⟨by kernel_rfl⟩⟩
instance bo39 : BoC 39 := ⟨⟨by kernel_rfl⟩⟩
instance bo40 : BoC 40 := ⟨⟨by kernel_rfl⟩⟩
instance bo41 : BoC 41 := ⟨⟨by kernel_rfl⟩⟩
instance bo42 : BoC 42 := ⟨⟨by kernel_rfl⟩⟩
instance bo43 : BoC 43 := ⟨⟨by kernel_rfl⟩⟩
instance bo44 : BoC 44 := ⟨⟨by kernel_rfl⟩⟩
instance bo45 : BoC 45 := ⟨⟨by kernel_rfl⟩⟩
instance bo46 : BoC 46 := ⟨⟨by kernel_rfl⟩⟩
instance bo47 : BoC 47 := ⟨⟨by kernel_rfl⟩⟩
instance bo48 : BoC 48 := ⟨⟨by kernel_rfl⟩⟩
instance bo49 : BoC 49 := ⟨⟨by kernel_rfl⟩⟩
instance bo50 : BoC 50 := ⟨⟨by kernel_rfl⟩⟩
instance bo51 : BoC 51 := ⟨⟨by kernel_rfl⟩⟩
instance bo52 : BoC 52 := ⟨⟨by kernel_rfl⟩⟩
instance bo53 : BoC 53 := ⟨⟨by kernel_rfl⟩⟩
instance bo54 : BoC 54 := ⟨⟨by kernel_rfl⟩⟩
instance bo55 : BoC 55 := ⟨⟨by kernel_rfl⟩⟩
instance bo56 : BoC 56 := ⟨⟨by kernel_rfl⟩⟩
instance bo57 : BoC 57 := ⟨⟨by kernel_rfl⟩⟩
instance bo58 : BoC 58 := ⟨⟨by kernel_rfl⟩⟩
instance bo59 : BoC 59 := ⟨⟨by kernel_rfl⟩⟩
instance bo60 : BoC 60 := ⟨⟨by kernel_rfl⟩⟩
instance bo61 : BoC 61 := ⟨⟨by kernel_rfl⟩⟩
instance bo62 : BoC 62 := ⟨⟨by kernel_rfl⟩⟩
instance bo63 : BoC 63 := ⟨⟨by kernel_rfl⟩⟩
instance bo64 : BoC 64 := ⟨⟨by kernel_rfl⟩⟩
instance bo65 : BoC 65 := ⟨⟨by kernel_rfl⟩⟩
instance bo66 : BoC 66 := ⟨⟨by kernel_rfl⟩⟩
instance bo67 : BoC 67 := ⟨⟨by kernel_rfl⟩⟩
instance bo68 : BoC 68 := ⟨⟨by kernel_rfl⟩⟩
instance bo69 : BoC 69 := ⟨⟨by kernel_rfl⟩⟩
instance bo70 : BoC 70 := ⟨⟨by kernel_rfl⟩⟩
instance bo71 : BoC 71 := ⟨⟨by kernel_rfl⟩⟩
instance bo72 : BoC 72 := ⟨⟨by kernel_rfl⟩⟩
instance bo73 : BoC 73 := ⟨⟨by kernel_rfl⟩⟩
instance bo74 : BoC 74 := ⟨⟨by kernel_rfl⟩⟩
instance bo75 : BoC 75 := ⟨⟨by kernel_rfl⟩⟩
instance bo76 : BoC 76 := ⟨⟨by kernel_rfl⟩⟩
instance bo77 : BoC 77 := ⟨⟨by kernel_rfl⟩⟩
instance bo78 : BoC 78 := ⟨⟨by kernel_rfl⟩⟩
instance bo79 : BoC 79 := ⟨⟨by kernel_rfl⟩⟩
instance bo80 : BoC 80 := ⟨⟨by kernel_rfl⟩⟩
instance bo81 : BoC 81 := ⟨⟨by kernel_rfl⟩⟩
instance bo82 : BoC 82 := ⟨⟨by kernel_rfl⟩⟩
instance bo83 : BoC 83 := ⟨⟨by kernel_rfl⟩⟩
instance bo84 : BoC 84 := ⟨⟨by kernel_rfl⟩⟩
instance bo85 : BoC 85 := ⟨⟨by kernel_rfl⟩⟩
instance bo86 : BoC 86 := ⟨⟨by kernel_rfl⟩⟩
instance bo87 : BoC 87 := ⟨⟨by kernel_rfl⟩⟩
instance bo88 : BoC 88 := ⟨⟨by kernel_rfl⟩⟩
instance bo90 : BoC 90 := ⟨⟨by kernel_rfl⟩⟩
instance bo91 : BoC 91 := ⟨⟨by kernel_rfl⟩⟩
instance bo92 : BoC 92 := ⟨⟨by kernel_rfl⟩⟩
instance bo93 : BoC 93 := ⟨⟨by kernel_rfl⟩⟩
instance bo94 : BoC 94 := ⟨⟨by kernel_rfl⟩⟩
instance bo95 : BoC 95 := ⟨⟨by kernel_rfl⟩⟩
instance bo96 : BoC 96 := ⟨⟨by kernel_rfl⟩⟩
instance bo97 : BoC 97 := ⟨⟨by kernel_rfl⟩⟩
instance bo98 : BoC 98 := ⟨⟨by kernel_rfl⟩⟩
instance bo99 : BoC 99 := ⟨⟨by kernel_rfl⟩⟩
instance bo100 : BoC 100 := ⟨⟨by kernel_rfl⟩⟩
instance bo101 : BoC 101 := ⟨⟨by kernel_rfl⟩⟩
instance bo102 : BoC 102 := ⟨⟨by kernel_rfl⟩⟩
instance bo103 : BoC 103 := ⟨⟨by kernel_rfl⟩⟩
instance bo104 : BoC 104 := ⟨⟨by kernel_rfl⟩⟩
instance bo105 : BoC 105 := ⟨⟨by kernel_rfl⟩⟩
instance bo106 : BoC 106 := ⟨⟨by kernel_rfl⟩⟩
instance bo107 : BoC 107 := ⟨⟨by kernel_rfl⟩⟩
instance bo108 : BoC 108 := ⟨⟨by kernel_rfl⟩⟩
instance bo109 : BoC 109 := ⟨⟨by kernel_rfl⟩⟩
instance bo110 : BoC 110 := ⟨⟨by kernel_rfl⟩⟩
instance bo112 : BoC 112 := ⟨⟨by kernel_rfl⟩⟩
instance bo113 : BoC 113 := ⟨⟨by kernel_rfl⟩⟩
instance bo114 : BoC 114 := ⟨⟨by kernel_rfl⟩⟩
instance bo115 : BoC 115 := ⟨⟨by kernel_rfl⟩⟩
instance bo116 : BoC 116 := ⟨⟨by kernel_rfl⟩⟩
instance bo117 : BoC 117 := ⟨⟨by kernel_rfl⟩⟩
instance bo118 : BoC 118 := ⟨⟨by kernel_rfl⟩⟩
instance bo119 : BoC 119 := ⟨⟨by kernel_rfl⟩⟩
instance bo120 : BoC 120 := ⟨⟨by kernel_rfl⟩⟩
instance bo121 : BoC 121 := ⟨⟨by kernel_rfl⟩⟩
instance bo125 : BoC 125 := ⟨⟨by kernel_rfl⟩⟩
instance bo126 : BoC 126 := ⟨⟨by kernel_rfl⟩⟩
instance bo127 : BoC 127 := ⟨⟨by kernel_rfl⟩⟩
instance bo128 : BoC 128 := ⟨⟨by kernel_rfl⟩⟩
instance bo129 : BoC 129 := ⟨⟨by kernel_rfl⟩⟩
instance bo131 : BoC 131 := ⟨⟨by kernel_rfl⟩⟩
instance bo132 : BoC 132 := ⟨⟨by kernel_rfl⟩⟩
instance bo133 : BoC 133 := ⟨⟨by kernel_rfl⟩⟩
instance bo134 : BoC 134 := ⟨⟨by kernel_rfl⟩⟩
instance bo135 : BoC 135 := ⟨⟨by kernel_rfl⟩⟩
instance bo136 : BoC 136 := ⟨⟨by kernel_rfl⟩⟩
instance bo137 : BoC 137 := ⟨⟨by kernel_rfl⟩⟩
instance bo138 : BoC 138 := ⟨⟨by kernel_rfl⟩⟩
instance bo139 : BoC 139 := ⟨⟨by kernel_rfl⟩⟩
theorem ef22 : EfI Tryz.prog 22 5 1 1 [.d (.v (.int .u8 0))] := ⟨by kernel_rfl⟩
theorem ef29 : EfI Tryz.prog 29 3 1 8 [.d (.v (.int .i64 0))] := ⟨by kernel_rfl⟩
theorem ef30 : EfI Tryz.prog 30 106 6 80 [.d (.v (.int .i64 0)), .d (.v (.int .i64 0)), .d (.v (.int .i64 0)), .d (.v (.bool false)), .zero, .zero] := ⟨by kernel_rfl⟩
theorem ef33 : EfI Tryz.prog 33 68 3 24 [.d (.v (.int .i64 0)), .d (.v (.int .i64 0)), .d (.v (.int .i64 0))] := ⟨by kernel_rfl⟩
theorem ef34 : EfI Tryz.prog 34 62 4 40 [.d (.v (.int .i64 0)), .d (.v (.int .i64 0)), .d (.v (.int .i64 0)), .d (.v (.string ByteArray.empty))] := ⟨by kernel_rfl⟩
theorem ef35 : EfI Tryz.prog 35 47 9 136 [.zero, .d (.v (.int .i64 0)), .d (.v (.int .i64 0)), .d (.v (.int .i64 0)), .d (.v (.int .i64 0)), .d (.v (.int .i64 0)), .zero, .zero, .zero] := ⟨by kernel_rfl⟩
theorem ef43 : EfI Tryz.prog 43 146 1 1 [.d (.v (.int .u8 0))] := ⟨by kernel_rfl⟩
theorem ef58 : EfI Tryz.prog 58 66 10 88 [.d (.v (.int .i64 0)), .d (.v (.int .i64 0)), .d (.v (.int .i64 0)), .d (.v (.int .i64 0)), .d (.v (.string ByteArray.empty)), .d (.v (.int .i64 0)), .d (.v (.int .i64 0)), .d (.v (.int .i64 0)), .d (.v (.int .i64 0)), .d (.v (.int .i64 0))] := ⟨by kernel_rfl⟩
theorem ef104 : EfI Tryz.prog 104 144 1 24 [.zero] := ⟨by kernel_rfl⟩
theorem ef112 : EfI Tryz.prog 112 150 7 104 [.zero, .zero, .zero, .d (.v (.int .i64 0)), .d (.v (.int .i64 0)), .d (.v (.int .i64 0)), .d (.v (.int .i64 0))] := ⟨by kernel_rfl⟩
theorem ef144 : EfI Tryz.prog 144 4 1 1 [.d (.v (.bool false))] := ⟨by kernel_rfl⟩
theorem ef147 : EfI Tryz.prog 147 45 3 72 [.zero, .zero, .zero] := ⟨by kernel_rfl⟩
theorem ef172 : EfI Tryz.prog 172 158 3 24 [.d (.v (.int .i64 0)), .d (.v (.int .i64 0)), .d (.v (.int .i64 0))] := ⟨by kernel_rfl⟩
theorem el22 : ElI Tryz.prog 22 1 := ⟨by kernel_rfl⟩
theorem el23 : ElI Tryz.prog 23 6 := ⟨by kernel_rfl⟩
theorem el29 : ElI Tryz.prog 29 1 := ⟨by kernel_rfl⟩
theorem el30 : ElI Tryz.prog 30 6 := ⟨by kernel_rfl⟩
theorem el33 : ElI Tryz.prog 33 3 := ⟨by kernel_rfl⟩
theorem el34 : ElI Tryz.prog 34 4 := ⟨by kernel_rfl⟩
theorem el43 : ElI Tryz.prog 43 1 := ⟨by kernel_rfl⟩
theorem el58 : ElI Tryz.prog 58 10 := ⟨by kernel_rfl⟩
theorem el104 : ElI Tryz.prog 104 1 := ⟨by kernel_rfl⟩
theorem el112 : ElI Tryz.prog 112 7 := ⟨by kernel_rfl⟩
theorem el144 : ElI Tryz.prog 144 1 := ⟨by kernel_rfl⟩
theorem el147 : ElI Tryz.prog 147 3 := ⟨by kernel_rfl⟩
theorem el172 : ElI Tryz.prog 172 3 := ⟨by kernel_rfl⟩
instance fd25_0 : FdC 25 0 0 none := ⟨⟨by kernel_rfl⟩⟩
instance fd25_1 : FdC 25 1 1 none := ⟨⟨by kernel_rfl⟩⟩
instance fd25_2 : FdC 25 2 2 none := ⟨⟨by kernel_rfl⟩⟩
instance fd25_3 : FdC 25 3 3 none := ⟨⟨by kernel_rfl⟩⟩
instance fd27_0 : FdC 27 0 0 (some 4) := ⟨⟨by kernel_rfl⟩⟩
instance fd27_1 : FdC 27 1 4 none := ⟨⟨by kernel_rfl⟩⟩
instance fd27_2 : FdC 27 2 5 none := ⟨⟨by kernel_rfl⟩⟩
instance fd32_0 : FdC 32 0 0 none := ⟨⟨by kernel_rfl⟩⟩
instance fd32_1 : FdC 32 1 1 none := ⟨⟨by kernel_rfl⟩⟩
instance fd32_2 : FdC 32 2 2 none := ⟨⟨by kernel_rfl⟩⟩
instance fd32_3 : FdC 32 3 3 none := ⟨⟨by kernel_rfl⟩⟩
instance fd37_0 : FdC 37 0 0 (some 4) := ⟨⟨by kernel_rfl⟩⟩
instance fd37_1 : FdC 37 1 4 none := ⟨⟨by kernel_rfl⟩⟩
instance fd37_2 : FdC 37 2 5 none := ⟨⟨by kernel_rfl⟩⟩
instance fd37_3 : FdC 37 3 6 none := ⟨⟨by kernel_rfl⟩⟩
instance fd37_4 : FdC 37 4 7 none := ⟨⟨by kernel_rfl⟩⟩
instance fd37_5 : FdC 37 5 8 none := ⟨⟨by kernel_rfl⟩⟩
instance fd45_0 : FdC 45 0 0 none := ⟨⟨by kernel_rfl⟩⟩
instance fd45_1 : FdC 45 1 1 none := ⟨⟨by kernel_rfl⟩⟩
instance fd45_2 : FdC 45 2 2 none := ⟨⟨by kernel_rfl⟩⟩
instance fd47_0 : FdC 47 0 0 none := ⟨⟨by kernel_rfl⟩⟩
instance fd47_1 : FdC 47 1 1 none := ⟨⟨by kernel_rfl⟩⟩
instance fd47_2 : FdC 47 2 2 none := ⟨⟨by kernel_rfl⟩⟩
instance fd47_3 : FdC 47 3 3 none := ⟨⟨by kernel_rfl⟩⟩
instance fd47_4 : FdC 47 4 4 none := ⟨⟨by kernel_rfl⟩⟩
instance fd47_5 : FdC 47 5 5 none := ⟨⟨by kernel_rfl⟩⟩
instance fd47_6 : FdC 47 6 6 (some 3) := ⟨⟨by kernel_rfl⟩⟩
instance fd56_0 : FdC 56 0 0 none := ⟨⟨by kernel_rfl⟩⟩
instance fd56_1 : FdC 56 1 1 none := ⟨⟨by kernel_rfl⟩⟩
instance fd56_2 : FdC 56 2 2 none := ⟨⟨by kernel_rfl⟩⟩
instance fd56_3 : FdC 56 3 3 none := ⟨⟨by kernel_rfl⟩⟩
instance fd56_4 : FdC 56 4 4 none := ⟨⟨by kernel_rfl⟩⟩
instance fd56_5 : FdC 56 5 5 none := ⟨⟨by kernel_rfl⟩⟩
instance fd56_6 : FdC 56 6 6 none := ⟨⟨by kernel_rfl⟩⟩
instance fd62_0 : FdC 62 0 0 none := ⟨⟨by kernel_rfl⟩⟩
instance fd62_1 : FdC 62 1 1 none := ⟨⟨by kernel_rfl⟩⟩
instance fd62_2 : FdC 62 2 2 none := ⟨⟨by kernel_rfl⟩⟩
instance fd62_3 : FdC 62 3 3 none := ⟨⟨by kernel_rfl⟩⟩
instance fd66_0 : FdC 66 0 0 none := ⟨⟨by kernel_rfl⟩⟩
instance fd66_1 : FdC 66 1 1 (some 4) := ⟨⟨by kernel_rfl⟩⟩
instance fd68_0 : FdC 68 0 0 none := ⟨⟨by kernel_rfl⟩⟩
instance fd68_1 : FdC 68 1 1 none := ⟨⟨by kernel_rfl⟩⟩
instance fd68_2 : FdC 68 2 2 none := ⟨⟨by kernel_rfl⟩⟩
instance fd90_0 : FdC 90 0 0 (some 4) := ⟨⟨by kernel_rfl⟩⟩
instance fd90_1 : FdC 90 1 4 none := ⟨⟨by kernel_rfl⟩⟩
instance fd90_2 : FdC 90 2 5 (some 9) := ⟨⟨by kernel_rfl⟩⟩
instance fd103_0 : FdC 103 0 0 none := ⟨⟨by kernel_rfl⟩⟩
instance fd103_1 : FdC 103 1 1 none := ⟨⟨by kernel_rfl⟩⟩
instance fd103_2 : FdC 103 2 2 none := ⟨⟨by kernel_rfl⟩⟩
instance fd103_3 : FdC 103 3 3 none := ⟨⟨by kernel_rfl⟩⟩
instance fd103_4 : FdC 103 4 4 none := ⟨⟨by kernel_rfl⟩⟩
instance fd103_5 : FdC 103 5 5 none := ⟨⟨by kernel_rfl⟩⟩
instance fd106_0 : FdC 106 0 0 none := ⟨⟨by kernel_rfl⟩⟩
instance fd106_1 : FdC 106 1 1 none := ⟨⟨by kernel_rfl⟩⟩
instance fd106_2 : FdC 106 2 2 none := ⟨⟨by kernel_rfl⟩⟩
instance fd106_3 : FdC 106 3 3 none := ⟨⟨by kernel_rfl⟩⟩
instance fd106_4 : FdC 106 4 4 none := ⟨⟨by kernel_rfl⟩⟩
instance fd106_5 : FdC 106 5 5 none := ⟨⟨by kernel_rfl⟩⟩
instance fd150_0 : FdC 150 0 0 (some 3) := ⟨⟨by kernel_rfl⟩⟩
instance fd150_1 : FdC 150 1 3 none := ⟨⟨by kernel_rfl⟩⟩
instance fd150_2 : FdC 150 2 4 (some 3) := ⟨⟨by kernel_rfl⟩⟩
theorem ib4 : IbI Tryz.prog 4 := ⟨by kernel_rfl⟩
theorem ik2 : IkI Tryz.prog 2 .i64 := ⟨by kernel_rfl⟩
theorem ik3 : IkI Tryz.prog 3 .i64 := ⟨by kernel_rfl⟩
theorem ik5 : IkI Tryz.prog 5 .u8 := ⟨by kernel_rfl⟩
theorem ik28 : IkI Tryz.prog 28 .u16 := ⟨by kernel_rfl⟩
theorem ik131 : IkI Tryz.prog 131 .u64 := ⟨by kernel_rfl⟩
theorem ik133 : IkI Tryz.prog 133 .u32 := ⟨by kernel_rfl⟩
theorem ik146 : IkI Tryz.prog 146 .u8 := ⟨by kernel_rfl⟩
theorem is22 : IsI Tryz.prog 22 := ⟨by kernel_rfl⟩
theorem is29 : IsI Tryz.prog 29 := ⟨by kernel_rfl⟩
theorem is30 : IsI Tryz.prog 30 := ⟨by kernel_rfl⟩
theorem is33 : IsI Tryz.prog 33 := ⟨by kernel_rfl⟩
theorem is34 : IsI Tryz.prog 34 := ⟨by kernel_rfl⟩
theorem is35 : IsI Tryz.prog 35 := ⟨by kernel_rfl⟩
theorem is43 : IsI Tryz.prog 43 := ⟨by kernel_rfl⟩
theorem is58 : IsI Tryz.prog 58 := ⟨by kernel_rfl⟩
theorem is104 : IsI Tryz.prog 104 := ⟨by kernel_rfl⟩
theorem is112 : IsI Tryz.prog 112 := ⟨by kernel_rfl⟩
theorem is144 : IsI Tryz.prog 144 := ⟨by kernel_rfl⟩
theorem is147 : IsI Tryz.prog 147 := ⟨by kernel_rfl⟩
theorem is172 : IsI Tryz.prog 172 := ⟨by kernel_rfl⟩
instance ld2 : LdC 2 := ⟨⟨by kernel_rfl⟩⟩
instance ld3 : LdC 3 := ⟨⟨by kernel_rfl⟩⟩
instance ld4 : LdC 4 := ⟨⟨by kernel_rfl⟩⟩
instance ld5 : LdC 5 := ⟨⟨by kernel_rfl⟩⟩
instance ld9 : LdC 9 := ⟨⟨by kernel_rfl⟩⟩
instance ld22 : LdC 22 := ⟨⟨by kernel_rfl⟩⟩
instance ld23 : LdC 23 := ⟨⟨by kernel_rfl⟩⟩
instance ld25 : LdA 25 4 := ⟨⟨by kernel_rfl⟩⟩
instance ld27 : LdA 27 6 := ⟨⟨by kernel_rfl⟩⟩
instance ld28 : LdC 28 := ⟨⟨by kernel_rfl⟩⟩
instance ld29 : LdC 29 := ⟨⟨by kernel_rfl⟩⟩
instance ld30 : LdC 30 := ⟨⟨by kernel_rfl⟩⟩
instance ld32 : LdA 32 4 := ⟨⟨by kernel_rfl⟩⟩
instance ld33 : LdC 33 := ⟨⟨by kernel_rfl⟩⟩
instance ld34 : LdC 34 := ⟨⟨by kernel_rfl⟩⟩
instance ld35 : LdC 35 := ⟨⟨by kernel_rfl⟩⟩
instance ld37 : LdA 37 9 := ⟨⟨by kernel_rfl⟩⟩
instance ld43 : LdC 43 := ⟨⟨by kernel_rfl⟩⟩
instance ld45 : LdA 45 3 := ⟨⟨by kernel_rfl⟩⟩
instance ld47 : LdA 47 9 := ⟨⟨by kernel_rfl⟩⟩
instance ld56 : LdA 56 7 := ⟨⟨by kernel_rfl⟩⟩
instance ld62 : LdA 62 4 := ⟨⟨by kernel_rfl⟩⟩
instance ld66 : LdA 66 10 := ⟨⟨by kernel_rfl⟩⟩
instance ld68 : LdA 68 3 := ⟨⟨by kernel_rfl⟩⟩
instance ld103 : LdA 103 6 := ⟨⟨by kernel_rfl⟩⟩
instance ld104 : LdC 104 := ⟨⟨by kernel_rfl⟩⟩
instance ld106 : LdA 106 6 := ⟨⟨by kernel_rfl⟩⟩
instance ld144 : LdC 144 := ⟨⟨by kernel_rfl⟩⟩
instance ld146 : LdC 146 := ⟨⟨by kernel_rfl⟩⟩
instance ld158 : LdA 158 3 := ⟨⟨by kernel_rfl⟩⟩
theorem ns146 : NsI Tryz.prog 146 := ⟨by kernel_rfl⟩
theorem pl27 : PlI Tryz.prog 27 [.zero, .zero, .zero, .zero, .zero, .zero] [(0, 4), (4, 1), (5, 1)] := ⟨by kernel_rfl⟩
theorem pl32 : PlI Tryz.prog 32 [.zero, .zero, .zero, .zero] [(0, 1), (1, 1), (2, 1), (3, 1)] := ⟨by kernel_rfl⟩
theorem pl37 : PlI Tryz.prog 37 [.zero, .zero, .zero, .zero, .zero, .zero, .zero, .zero, .zero] [(0, 4), (4, 1), (5, 1), (6, 1), (7, 1), (8, 1)] := ⟨by kernel_rfl⟩
theorem pl45 : PlI Tryz.prog 45 [.zero, .zero, .zero] [(0, 1), (1, 1), (2, 1)] := ⟨by kernel_rfl⟩
theorem pl47 : PlI Tryz.prog 47 [.zero, .d (.v (.int .i64 0)), .d (.v (.int .i64 0)), .d (.v (.int .i64 0)), .d (.v (.int .i64 0)), .d (.v (.int .i64 0)), .zero, .zero, .zero] [(0, 1), (1, 1), (2, 1), (3, 1), (4, 1), (5, 1), (6, 3)] := ⟨by kernel_rfl⟩
theorem pl56 : PlI Tryz.prog 56 [.d (.v (.int .i64 0)), .d (.v (.int .i64 0)), .d (.v (.int .i64 0)), .d (.v (.int .i64 0)), .d (.v (.int .i64 0)), .d (.v (.bool false)), .d (.v (.int .i64 0))] [(0, 1), (1, 1), (2, 1), (3, 1), (4, 1), (5, 1), (6, 1)] := ⟨by kernel_rfl⟩
theorem pl62 : PlI Tryz.prog 62 [.d (.v (.int .i64 0)), .d (.v (.int .i64 0)), .d (.v (.int .i64 0)), .d (.v (.string ByteArray.empty))] [(0, 1), (1, 1), (2, 1), (3, 1)] := ⟨by kernel_rfl⟩
theorem pl64 : PlI Tryz.prog 64 [.d (.v (.int .i64 0)), .d (.v (.int .i64 0)), .d (.v (.int .i64 0))] [(0, 1), (1, 1), (2, 1)] := ⟨by kernel_rfl⟩
theorem pl66 : PlI Tryz.prog 66 [.d (.v (.int .i64 0)), .d (.v (.int .i64 0)), .d (.v (.int .i64 0)), .d (.v (.int .i64 0)), .d (.v (.string ByteArray.empty)), .d (.v (.int .i64 0)), .d (.v (.int .i64 0)), .d (.v (.int .i64 0)), .d (.v (.int .i64 0)), .d (.v (.int .i64 0))] [(0, 1), (1, 4), (5, 3), (8, 1), (9, 1)] := ⟨by kernel_rfl⟩
theorem pl68 : PlI Tryz.prog 68 [.d (.v (.int .i64 0)), .d (.v (.int .i64 0)), .d (.v (.int .i64 0))] [(0, 1), (1, 1), (2, 1)] := ⟨by kernel_rfl⟩
theorem pl90 : PlI Tryz.prog 90 [.zero, .zero, .zero, .zero, .zero, .zero, .d (.v (.int .i64 0)), .d (.v (.int .i64 0)), .d (.v (.int .i64 0)), .d (.v (.int .i64 0)), .d (.v (.int .i64 0)), .zero, .zero, .zero] [(0, 4), (4, 1), (5, 9)] := ⟨by kernel_rfl⟩
theorem pl106 : PlI Tryz.prog 106 [.d (.v (.int .i64 0)), .d (.v (.int .i64 0)), .d (.v (.int .i64 0)), .d (.v (.bool false)), .zero, .zero] [(0, 1), (1, 1), (2, 1), (3, 1), (4, 1), (5, 1)] := ⟨by kernel_rfl⟩
theorem pl150 : PlI Tryz.prog 150 [.zero, .zero, .zero, .d (.v (.int .i64 0)), .d (.v (.int .i64 0)), .d (.v (.int .i64 0)), .d (.v (.int .i64 0))] [(0, 3), (3, 1), (4, 3)] := ⟨by kernel_rfl⟩
theorem pl158 : PlI Tryz.prog 158 [.d (.v (.int .i64 0)), .d (.v (.int .i64 0)), .d (.v (.int .i64 0))] [(0, 1), (1, 1), (2, 1)] := ⟨by kernel_rfl⟩
instance sz2 : SzC 2 1 := ⟨⟨by kernel_rfl⟩⟩
instance sz3 : SzC 3 1 := ⟨⟨by kernel_rfl⟩⟩
instance sz4 : SzC 4 1 := ⟨⟨by kernel_rfl⟩⟩
instance sz29 : SzC 29 1 := ⟨⟨by kernel_rfl⟩⟩
instance sz30 : SzC 30 1 := ⟨⟨by kernel_rfl⟩⟩
instance sz32 : SzC 32 4 := ⟨⟨by kernel_rfl⟩⟩
instance sz34 : SzC 34 1 := ⟨⟨by kernel_rfl⟩⟩
instance sz35 : SzC 35 1 := ⟨⟨by kernel_rfl⟩⟩
instance sz37 : SzC 37 9 := ⟨⟨by kernel_rfl⟩⟩
instance sz43 : SzC 43 1 := ⟨⟨by kernel_rfl⟩⟩
instance sz45 : SzC 45 3 := ⟨⟨by kernel_rfl⟩⟩
instance sz47 : SzC 47 9 := ⟨⟨by kernel_rfl⟩⟩
instance sz56 : SzC 56 7 := ⟨⟨by kernel_rfl⟩⟩
instance sz62 : SzC 62 4 := ⟨⟨by kernel_rfl⟩⟩
instance sz66 : SzC 66 10 := ⟨⟨by kernel_rfl⟩⟩
instance sz68 : SzC 68 3 := ⟨⟨by kernel_rfl⟩⟩
instance sz103 : SzC 103 6 := ⟨⟨by kernel_rfl⟩⟩
instance sz104 : SzC 104 1 := ⟨⟨by kernel_rfl⟩⟩
instance sz106 : SzC 106 6 := ⟨⟨by kernel_rfl⟩⟩
instance sz146 : SzC 146 1 := ⟨⟨by kernel_rfl⟩⟩
instance sz158 : SzC 158 3 := ⟨⟨by kernel_rfl⟩⟩
theorem zr32 : ZrI Tryz.prog 32 [.zero, .zero, .zero, .zero] := ⟨by kernel_rfl⟩
theorem zr37 : ZrI Tryz.prog 37 [.zero, .zero, .zero, .zero, .zero, .zero, .zero, .zero, .zero] := ⟨by kernel_rfl⟩
theorem zr45 : ZrI Tryz.prog 45 [.zero, .zero, .zero] := ⟨by kernel_rfl⟩
theorem zr47 : ZrI Tryz.prog 47 [.zero, .d (.v (.int .i64 0)), .d (.v (.int .i64 0)), .d (.v (.int .i64 0)), .d (.v (.int .i64 0)), .d (.v (.int .i64 0)), .zero, .zero, .zero] := ⟨by kernel_rfl⟩
theorem zr56 : ZrI Tryz.prog 56 [.d (.v (.int .i64 0)), .d (.v (.int .i64 0)), .d (.v (.int .i64 0)), .d (.v (.int .i64 0)), .d (.v (.int .i64 0)), .d (.v (.bool false)), .d (.v (.int .i64 0))] := ⟨by kernel_rfl⟩
theorem zr62 : ZrI Tryz.prog 62 [.d (.v (.int .i64 0)), .d (.v (.int .i64 0)), .d (.v (.int .i64 0)), .d (.v (.string ByteArray.empty))] := ⟨by kernel_rfl⟩
theorem zr66 : ZrI Tryz.prog 66 [.d (.v (.int .i64 0)), .d (.v (.int .i64 0)), .d (.v (.int .i64 0)), .d (.v (.int .i64 0)), .d (.v (.string ByteArray.empty)), .d (.v (.int .i64 0)), .d (.v (.int .i64 0)), .d (.v (.int .i64 0)), .d (.v (.int .i64 0)), .d (.v (.int .i64 0))] := ⟨by kernel_rfl⟩
theorem zr68 : ZrI Tryz.prog 68 [.d (.v (.int .i64 0)), .d (.v (.int .i64 0)), .d (.v (.int .i64 0))] := ⟨by kernel_rfl⟩
theorem zr103 : ZrI Tryz.prog 103 [.d (.v (.int .u8 0)), .d (.v (.int .u8 0)), .d (.v (.int .u8 0)), .d (.v (.bool false)), .d (.v (.int .u16 0)), .d (.v (.int .u16 0))] := ⟨by kernel_rfl⟩
theorem zr106 : ZrI Tryz.prog 106 [.d (.v (.int .i64 0)), .d (.v (.int .i64 0)), .d (.v (.int .i64 0)), .d (.v (.bool false)), .zero, .zero] := ⟨by kernel_rfl⟩
theorem zr138 : ZrI Tryz.prog 138 [.d (.v (.int .i64 0)), .d (.v (.int .i64 0)), .d (.v (.int .i64 0))] := ⟨by kernel_rfl⟩
theorem zr158 : ZrI Tryz.prog 158 [.d (.v (.int .i64 0)), .d (.v (.int .i64 0)), .d (.v (.int .i64 0))] := ⟨by kernel_rfl⟩
end Go.Proofs.YtngjhkgcfabciaaGreat

