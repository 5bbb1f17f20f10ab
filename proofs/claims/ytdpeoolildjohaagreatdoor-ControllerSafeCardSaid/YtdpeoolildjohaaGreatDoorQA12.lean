/- Rules of runs and contracts of functions, for the claims of one seat. -/
import Derived.Test.YtdpeoolildjohaaGreatDoorQA10
import Derived.Test.YtdpeoolildjohaaGreatDoorQA11
namespace Go.Proofs.YtdpeoolildjohaaGreatDoor
open Go Go.RowKit
set_option linter.unusedSimpArgs false
set_option linter.unusedVariables false
def nilL : LinkD := ⟨0, 0, 0, false, 0, 0⟩
def nilA : ActD := ⟨0, nilE, 0, 0, 0, 0, 0⟩
def nilG : SigD := ⟨0, 0, 0, 0, 0, false, 0⟩
def sigRow (s : SigD) : List D := [.v (.int .i64 s.kind), .v (.int .i64 s.token), .v (.int .i64 s.round), .v (.int .i64 s.replica), .v (.int .i64 s.ver), .v (.bool s.pass), .v (.int .i64 s.table)]
def dSigs (l : List SigD) : List (List D) := l.map sigRow
def dCtls (l : List CtlD) : List (List D) := l.map ctlRow
theorem rowsG {α : Type} {f : α → List D} {xs : List α} {n : Int} (d : α) (h : 0 ≤ n ∧ n < xs.length) : 0 ≤ n ∧ (xs.map f)[n.toNat]? = some (f (xs.getD n.toNat d)) := ⟨h.1, row_get h⟩
theorem rowsN {α : Type} {f : α → List D} {xs : List α} {n : Nat} (d : α) (h : n < xs.length) : (xs.map f)[n]? = some (f (xs.getD n d)) := row_getN h
theorem rowsZ {α : Type} {f : α → List D} {xs : List α} {n : Int} (d : α) (h : 0 ≤ n ∧ n < xs.length) : (xs.map f)[n.toNat]? = some (f (xs.getD n.toNat d)) := row_get h
theorem gInts {xs : List (Int)} {n : Int} (h : 0 ≤ n ∧ n < xs.length) : 0 ≤ n ∧ (dInts xs)[n.toNat]? = some ([.v (.int .i64 (xs.getD n.toNat 0))]) := rowsG 0 h
theorem gIntsN {xs : List (Int)} {k : Nat} (h : k < xs.length) : 0 ≤ (k : Int) ∧ (dInts xs)[(k : Int).toNat]? = some ([.v (.int .i64 (xs.getD k 0))]) := ⟨Int.natCast_nonneg k, rowsN 0 h⟩
theorem zInts {xs : List (Int)} {n : Int} (h : 0 ≤ n ∧ n < xs.length) : (dInts xs)[n.toNat]? = some ([.v (.int .i64 (xs.getD n.toNat 0))]) := rowsZ 0 h
theorem lInts {xs : List (Int)} : (dInts xs).length = xs.length := List.length_map _
theorem aInts {xs ys : List (Int)} : dInts xs ++ dInts ys = dInts (xs ++ ys) := List.map_append.symm
theorem nInts {xs : List (Int)} {a b : Nat} : ((dInts xs).drop a).take b = dInts ((xs.drop a).take b) := by unfold dInts; rw [List.map_take, List.map_drop]
theorem sInts {xs : List (Int)} {x : Int} : dInts xs ++ [[.v (.int .i64 x)]] = dInts (xs ++ [x]) := aInts (ys := [x])
theorem oInts {x : Int} : [[.v (.int .i64 x)]] = dInts [x] := rfl
theorem wInts {xs : List (Int)} {j : Nat} {x : Int} : (dInts xs).set j ([.v (.int .i64 x)]) = dInts (xs.set j x) := List.map_set.symm
theorem gSets {xs : List (Int)} {n : Int} (h : 0 ≤ n ∧ n < xs.length) : 0 ≤ n ∧ (dSets xs)[n.toNat]? = some ([.v (.int .u8 (xs.getD n.toNat 0))]) := rowsG 0 h
theorem gSetsN {xs : List (Int)} {k : Nat} (h : k < xs.length) : 0 ≤ (k : Int) ∧ (dSets xs)[(k : Int).toNat]? = some ([.v (.int .u8 (xs.getD k 0))]) := ⟨Int.natCast_nonneg k, rowsN 0 h⟩
theorem zSets {xs : List (Int)} {n : Int} (h : 0 ≤ n ∧ n < xs.length) : (dSets xs)[n.toNat]? = some ([.v (.int .u8 (xs.getD n.toNat 0))]) := rowsZ 0 h
theorem lSets {xs : List (Int)} : (dSets xs).length = xs.length := List.length_map _
theorem aSets {xs ys : List (Int)} : dSets xs ++ dSets ys = dSets (xs ++ ys) := List.map_append.symm
theorem sSets {xs : List (Int)} {x : Int} : dSets xs ++ [[.v (.int .u8 x)]] = dSets (xs ++ [x]) := aSets (ys := [x])
theorem oSets {x : Int} : [[.v (.int .u8 x)]] = dSets [x] := rfl
theorem wSets {xs : List (Int)} {j : Nat} {x : Int} : (dSets xs).set j ([.v (.int .u8 x)]) = dSets (xs.set j x) := List.map_set.symm
theorem rSets {n : Nat} {x : Int} : List.replicate n ([.v (.int .u8 x)]) = dSets (List.replicate n x) := by unfold dSets; rw [List.map_replicate]
theorem gBools {xs : List (Bool)} {n : Int} (h : 0 ≤ n ∧ n < xs.length) : 0 ≤ n ∧ (dBools xs)[n.toNat]? = some ([.v (.bool (xs.getD n.toNat false))]) := rowsG false h
theorem gBoolsN {xs : List (Bool)} {k : Nat} (h : k < xs.length) : 0 ≤ (k : Int) ∧ (dBools xs)[(k : Int).toNat]? = some ([.v (.bool (xs.getD k false))]) := ⟨Int.natCast_nonneg k, rowsN false h⟩
theorem zBools {xs : List (Bool)} {n : Int} (h : 0 ≤ n ∧ n < xs.length) : (dBools xs)[n.toNat]? = some ([.v (.bool (xs.getD n.toNat false))]) := rowsZ false h
theorem lBools {xs : List (Bool)} : (dBools xs).length = xs.length := List.length_map _
theorem aBools {xs ys : List (Bool)} : dBools xs ++ dBools ys = dBools (xs ++ ys) := List.map_append.symm
theorem sBools {xs : List (Bool)} {x : Bool} : dBools xs ++ [[.v (.bool x)]] = dBools (xs ++ [x]) := aBools (ys := [x])
theorem oBools {x : Bool} : [[.v (.bool x)]] = dBools [x] := rfl
theorem wBools {xs : List (Bool)} {j : Nat} {x : Bool} : (dBools xs).set j ([.v (.bool x)]) = dBools (xs.set j x) := List.map_set.symm
theorem gMat {xs : List (List Bool)} {n : Int} (h : 0 ≤ n ∧ n < xs.length) : 0 ≤ n ∧ (dMat xs)[n.toNat]? = some ([.sl 1 (dBools (xs.getD n.toNat []))]) := rowsG [] h
theorem gMatN {xs : List (List Bool)} {k : Nat} (h : k < xs.length) : 0 ≤ (k : Int) ∧ (dMat xs)[(k : Int).toNat]? = some ([.sl 1 (dBools (xs.getD k []))]) := ⟨Int.natCast_nonneg k, rowsN [] h⟩
theorem zMat {xs : List (List Bool)} {n : Int} (h : 0 ≤ n ∧ n < xs.length) : (dMat xs)[n.toNat]? = some ([.sl 1 (dBools (xs.getD n.toNat []))]) := rowsZ [] h
theorem lMat {xs : List (List Bool)} : (dMat xs).length = xs.length := List.length_map _
theorem aMat {xs ys : List (List Bool)} : dMat xs ++ dMat ys = dMat (xs ++ ys) := List.map_append.symm
theorem sMat {xs : List (List Bool)} {x : List Bool} : dMat xs ++ [[.sl 1 (dBools x)]] = dMat (xs ++ [x]) := aMat (ys := [x])
theorem oMat {x : List Bool} : [[.sl 1 (dBools x)]] = dMat [x] := rfl
theorem wMat {xs : List (List Bool)} {j : Nat} {x : List Bool} : (dMat xs).set j ([.sl 1 (dBools x)]) = dMat (xs.set j x) := List.map_set.symm
theorem gTabs {xs : List (Tab)} {n : Int} (h : 0 ≤ n ∧ n < xs.length) : 0 ≤ n ∧ (dTabs xs)[n.toNat]? = some (tabRow (xs.getD n.toNat nilT)) := rowsG nilT h
theorem gTabsN {xs : List (Tab)} {k : Nat} (h : k < xs.length) : 0 ≤ (k : Int) ∧ (dTabs xs)[(k : Int).toNat]? = some (tabRow (xs.getD k nilT)) := ⟨Int.natCast_nonneg k, rowsN nilT h⟩
theorem zTabs {xs : List (Tab)} {n : Int} (h : 0 ≤ n ∧ n < xs.length) : (dTabs xs)[n.toNat]? = some (tabRow (xs.getD n.toNat nilT)) := rowsZ nilT h
theorem lTabs {xs : List (Tab)} : (dTabs xs).length = xs.length := List.length_map _
theorem aTabs {xs ys : List (Tab)} : dTabs xs ++ dTabs ys = dTabs (xs ++ ys) := List.map_append.symm
theorem sTabs {xs : List (Tab)} {x : Tab} : dTabs xs ++ [tabRow x] = dTabs (xs ++ [x]) := aTabs (ys := [x])
theorem wTabs {xs : List (Tab)} {j : Nat} {x : Tab} : (dTabs xs).set j (tabRow x) = dTabs (xs.set j x) := List.map_set.symm
theorem gMixes {xs : List (MixD)} {n : Int} (h : 0 ≤ n ∧ n < xs.length) : 0 ≤ n ∧ (dMixes xs)[n.toNat]? = some (mixRow (xs.getD n.toNat nilM)) := rowsG nilM h
theorem gMixesN {xs : List (MixD)} {k : Nat} (h : k < xs.length) : 0 ≤ (k : Int) ∧ (dMixes xs)[(k : Int).toNat]? = some (mixRow (xs.getD k nilM)) := ⟨Int.natCast_nonneg k, rowsN nilM h⟩
theorem zMixes {xs : List (MixD)} {n : Int} (h : 0 ≤ n ∧ n < xs.length) : (dMixes xs)[n.toNat]? = some (mixRow (xs.getD n.toNat nilM)) := rowsZ nilM h
theorem lMixes {xs : List (MixD)} : (dMixes xs).length = xs.length := List.length_map _
theorem aMixes {xs ys : List (MixD)} : dMixes xs ++ dMixes ys = dMixes (xs ++ ys) := List.map_append.symm
theorem sMixes {xs : List (MixD)} {x : MixD} : dMixes xs ++ [mixRow x] = dMixes (xs ++ [x]) := aMixes (ys := [x])
theorem wMixes {xs : List (MixD)} {j : Nat} {x : MixD} : (dMixes xs).set j (mixRow x) = dMixes (xs.set j x) := List.map_set.symm
theorem gSteps {xs : List (StepD)} {n : Int} (h : 0 ≤ n ∧ n < xs.length) : 0 ≤ n ∧ (dSteps xs)[n.toNat]? = some (stepRow (xs.getD n.toNat nilS)) := rowsG nilS h
theorem gStepsN {xs : List (StepD)} {k : Nat} (h : k < xs.length) : 0 ≤ (k : Int) ∧ (dSteps xs)[(k : Int).toNat]? = some (stepRow (xs.getD k nilS)) := ⟨Int.natCast_nonneg k, rowsN nilS h⟩
theorem zSteps {xs : List (StepD)} {n : Int} (h : 0 ≤ n ∧ n < xs.length) : (dSteps xs)[n.toNat]? = some (stepRow (xs.getD n.toNat nilS)) := rowsZ nilS h
theorem lSteps {xs : List (StepD)} : (dSteps xs).length = xs.length := List.length_map _
theorem aSteps {xs ys : List (StepD)} : dSteps xs ++ dSteps ys = dSteps (xs ++ ys) := List.map_append.symm
theorem sSteps {xs : List (StepD)} {x : StepD} : dSteps xs ++ [stepRow x] = dSteps (xs ++ [x]) := aSteps (ys := [x])
theorem wSteps {xs : List (StepD)} {j : Nat} {x : StepD} : (dSteps xs).set j (stepRow x) = dSteps (xs.set j x) := List.map_set.symm
theorem gNodes {xs : List (NodeD)} {n : Int} (h : 0 ≤ n ∧ n < xs.length) : 0 ≤ n ∧ (dNodes xs)[n.toNat]? = some (nodeRow (xs.getD n.toNat nilN)) := rowsG nilN h
theorem gNodesN {xs : List (NodeD)} {k : Nat} (h : k < xs.length) : 0 ≤ (k : Int) ∧ (dNodes xs)[(k : Int).toNat]? = some (nodeRow (xs.getD k nilN)) := ⟨Int.natCast_nonneg k, rowsN nilN h⟩
theorem zNodes {xs : List (NodeD)} {n : Int} (h : 0 ≤ n ∧ n < xs.length) : (dNodes xs)[n.toNat]? = some (nodeRow (xs.getD n.toNat nilN)) := rowsZ nilN h
theorem lNodes {xs : List (NodeD)} : (dNodes xs).length = xs.length := List.length_map _
theorem aNodes {xs ys : List (NodeD)} : dNodes xs ++ dNodes ys = dNodes (xs ++ ys) := List.map_append.symm
theorem sNodes {xs : List (NodeD)} {x : NodeD} : dNodes xs ++ [nodeRow x] = dNodes (xs ++ [x]) := aNodes (ys := [x])
theorem wNodes {xs : List (NodeD)} {j : Nat} {x : NodeD} : (dNodes xs).set j (nodeRow x) = dNodes (xs.set j x) := List.map_set.symm
theorem gConfs {xs : List (ConfD)} {n : Int} (h : 0 ≤ n ∧ n < xs.length) : 0 ≤ n ∧ (dConfs xs)[n.toNat]? = some (confRow (xs.getD n.toNat nilC)) := rowsG nilC h
theorem gConfsN {xs : List (ConfD)} {k : Nat} (h : k < xs.length) : 0 ≤ (k : Int) ∧ (dConfs xs)[(k : Int).toNat]? = some (confRow (xs.getD k nilC)) := ⟨Int.natCast_nonneg k, rowsN nilC h⟩
theorem zConfs {xs : List (ConfD)} {n : Int} (h : 0 ≤ n ∧ n < xs.length) : (dConfs xs)[n.toNat]? = some (confRow (xs.getD n.toNat nilC)) := rowsZ nilC h
theorem lConfs {xs : List (ConfD)} : (dConfs xs).length = xs.length := List.length_map _
theorem aConfs {xs ys : List (ConfD)} : dConfs xs ++ dConfs ys = dConfs (xs ++ ys) := List.map_append.symm
theorem sConfs {xs : List (ConfD)} {x : ConfD} : dConfs xs ++ [confRow x] = dConfs (xs ++ [x]) := aConfs (ys := [x])
theorem wConfs {xs : List (ConfD)} {j : Nat} {x : ConfD} : (dConfs xs).set j (confRow x) = dConfs (xs.set j x) := List.map_set.symm
theorem lEnts {xs : List (EntD)} : (dEnts xs).length = xs.length := List.length_map _
theorem gActs {xs : List (ActD)} {n : Int} (h : 0 ≤ n ∧ n < xs.length) : 0 ≤ n ∧ (dActs xs)[n.toNat]? = some (actRow (xs.getD n.toNat nilA)) := rowsG nilA h
theorem gActsN {xs : List (ActD)} {k : Nat} (h : k < xs.length) : 0 ≤ (k : Int) ∧ (dActs xs)[(k : Int).toNat]? = some (actRow (xs.getD k nilA)) := ⟨Int.natCast_nonneg k, rowsN nilA h⟩
theorem zActs {xs : List (ActD)} {n : Int} (h : 0 ≤ n ∧ n < xs.length) : (dActs xs)[n.toNat]? = some (actRow (xs.getD n.toNat nilA)) := rowsZ nilA h
theorem lActs {xs : List (ActD)} : (dActs xs).length = xs.length := List.length_map _
theorem aActs {xs ys : List (ActD)} : dActs xs ++ dActs ys = dActs (xs ++ ys) := List.map_append.symm
theorem wActs {xs : List (ActD)} {j : Nat} {x : ActD} : (dActs xs).set j (actRow x) = dActs (xs.set j x) := List.map_set.symm
theorem lCtls {xs : List (CtlD)} : (dCtls xs).length = xs.length := List.length_map _
theorem gLinks {xs : List (LinkD)} {n : Int} (h : 0 ≤ n ∧ n < xs.length) : 0 ≤ n ∧ (dLinks xs)[n.toNat]? = some (linkRow (xs.getD n.toNat nilL)) := rowsG nilL h
theorem gLinksN {xs : List (LinkD)} {k : Nat} (h : k < xs.length) : 0 ≤ (k : Int) ∧ (dLinks xs)[(k : Int).toNat]? = some (linkRow (xs.getD k nilL)) := ⟨Int.natCast_nonneg k, rowsN nilL h⟩
theorem zLinks {xs : List (LinkD)} {n : Int} (h : 0 ≤ n ∧ n < xs.length) : (dLinks xs)[n.toNat]? = some (linkRow (xs.getD n.toNat nilL)) := rowsZ nilL h
theorem lLinks {xs : List (LinkD)} : (dLinks xs).length = xs.length := List.length_map _
theorem wLinks {xs : List (LinkD)} {j : Nat} {x : LinkD} : (dLinks xs).set j (linkRow x) = dLinks (xs.set j x) := List.map_set.symm
theorem gSigs {xs : List (SigD)} {n : Int} (h : 0 ≤ n ∧ n < xs.length) : 0 ≤ n ∧ (dSigs xs)[n.toNat]? = some (sigRow (xs.getD n.toNat nilG)) := rowsG nilG h
theorem gSigsN {xs : List (SigD)} {k : Nat} (h : k < xs.length) : 0 ≤ (k : Int) ∧ (dSigs xs)[(k : Int).toNat]? = some (sigRow (xs.getD k nilG)) := ⟨Int.natCast_nonneg k, rowsN nilG h⟩
theorem zSigs {xs : List (SigD)} {n : Int} (h : 0 ≤ n ∧ n < xs.length) : (dSigs xs)[n.toNat]? = some (sigRow (xs.getD n.toNat nilG)) := rowsZ nilG h
theorem lSigs {xs : List (SigD)} : (dSigs xs).length = xs.length := List.length_map _
theorem wSigs {xs : List (SigD)} {j : Nat} {x : SigD} : (dSigs xs).set j (sigRow x) = dSigs (xs.set j x) := List.map_set.symm
theorem sStepsC {xs : List StepD} {a b c : Int} : dSteps xs ++ [[.v (.int .i64 a), .v (.int .i64 b), .v (.int .i64 c)]] = dSteps (xs ++ [⟨a, b, c⟩]) := sSteps (x := ⟨a, b, c⟩)
theorem sConfsC {xs : List ConfD} {a b c : Int} : dConfs xs ++ [[.v (.int .i64 a), .v (.int .i64 b), .v (.int .i64 c)]] = dConfs (xs ++ [⟨a, b, c⟩]) := sConfs (x := ⟨a, b, c⟩)
theorem sMixesC {xs : List MixD} {a b c : List Int} : dMixes xs ++ [[.sl 1 (dInts a), .sl 1 (dInts b), .sl 1 (dSets c)]] = dMixes (xs ++ [⟨a, b, c⟩]) := sMixes (x := ⟨a, b, c⟩)
theorem sTabsC {xs : List Tab} {a b c : Int} {d : Bool} {e f : List (List Bool)} : dTabs xs ++ [[.v (.int .i64 a), .v (.int .i64 b), .v (.int .i64 c), .v (.bool d), .sl 1 (dMat e), .sl 1 (dMat f)]] = dTabs (xs ++ [⟨a, b, c, d, e, f⟩]) := sTabs (x := ⟨a, b, c, d, e, f⟩)
theorem sNodesC {xs : List NodeD} {a b : List Int} {c : List Int} {n k i v : Int} : dNodes xs ++ [[.sl 1 (dInts a), .sl 1 (dInts b), .sl 1 (dSets c), .v (.int .i64 n), .v (.int .i64 k), .v (.int .i64 i), .v (.int .i64 v)]] = dNodes (xs ++ [⟨⟨a, b, c⟩, n, ⟨k, i, v⟩⟩]) := sNodes (x := ⟨⟨a, b, c⟩, n, ⟨k, i, v⟩⟩)
end Go.Proofs.YtdpeoolildjohaaGreatDoor

namespace Go.Proofs.YtdpeoolildjohaaGreatDoor
open Go Go.RowKit
class FdC (s : TypeId) (f : Nat) (off : outParam Nat) (l : outParam (Option Nat)) : Prop where
 h : FdI Tryz.prog s f off l
class LdC (t : TypeId) : Prop where
 h : LdI Tryz.prog t none
class LdA (t : TypeId) (n : Nat) : Prop where
 h : LdI Tryz.prog t (some n)
class SzC (t : TypeId) (n : outParam Nat) : Prop where
 h : SzI Tryz.prog t n
class BoC (g : FuncId) : Prop where
 h : BoI Tryz.prog g
instance bo10 : BoC 10 := ⟨⟨by kernel_rfl⟩⟩
instance bo11 : BoC 11 := ⟨⟨by kernel_rfl⟩⟩
instance bo12 : BoC 12 := ⟨⟨by kernel_rfl⟩⟩
instance bo13 : BoC 13 := ⟨⟨by kernel_rfl⟩⟩
instance bo14 : BoC 14 := ⟨⟨by kernel_rfl⟩⟩
instance bo15 : BoC 15 := ⟨⟨by kernel_rfl⟩⟩
instance bo16 : BoC 16 := ⟨⟨by kernel_rfl⟩⟩
instance bo17 : BoC 17 := ⟨⟨by kernel_rfl⟩⟩
instance bo18 : BoC 18 := ⟨⟨by kernel_rfl⟩⟩
instance bo19 : BoC 19 := ⟨⟨by kernel_rfl⟩⟩
instance bo20 : BoC 20 := ⟨⟨by kernel_rfl⟩⟩
instance bo21 : BoC 21 := ⟨⟨by kernel_rfl⟩⟩
instance bo22 : BoC 22 := ⟨⟨by kernel_rfl⟩⟩
instance bo23 : BoC 23 := ⟨⟨by kernel_rfl⟩⟩
instance bo24 : BoC 24 := ⟨⟨by kernel_rfl⟩⟩
instance bo25 : BoC 25 := ⟨⟨by kernel_rfl⟩⟩
instance bo26 : BoC 26 := ⟨⟨by kernel_rfl⟩⟩
instance bo27 : BoC 27 := ⟨⟨by kernel_rfl⟩⟩
instance bo28 : BoC 28 := ⟨⟨by kernel_rfl⟩⟩
instance bo29 : BoC 29 := ⟨⟨by kernel_rfl⟩⟩
instance bo30 : BoC 30 := ⟨⟨by kernel_rfl⟩⟩
instance bo31 : BoC 31 := ⟨⟨by kernel_rfl⟩⟩
instance bo32 : BoC 32 := ⟨⟨by kernel_rfl⟩⟩
instance bo33 : BoC 33 := ⟨⟨by kernel_rfl⟩⟩
instance bo34 : BoC 34 := ⟨⟨by kernel_rfl⟩⟩
instance bo35 : BoC 35 := ⟨⟨by kernel_rfl⟩⟩
instance bo36 : BoC 36 := ⟨⟨by kernel_rfl⟩⟩
instance bo37 : BoC 37 := ⟨⟨by kernel_rfl⟩⟩
instance bo38 : BoC 38 := ⟨⟨by kernel_rfl⟩⟩
instance bo39 : BoC 39 := ⟨⟨by kernel_rfl⟩⟩
instance bo43 : BoC 43 := ⟨⟨by kernel_rfl⟩⟩
instance bo44 : BoC 44 := ⟨⟨by kernel_rfl⟩⟩
instance bo45 : BoC 45 := ⟨⟨by kernel_rfl⟩⟩
instance bo46 : BoC 46 := ⟨⟨by kernel_rfl⟩⟩
instance bo47 : BoC 47 := ⟨⟨by kernel_rfl⟩⟩
instance bo48 : BoC 48 := ⟨⟨by kernel_rfl⟩⟩
instance bo49 : BoC 49 := ⟨⟨by kernel_rfl⟩⟩
instance bo50 : BoC 50 := ⟨⟨by kernel_rfl⟩⟩
instance bo51 : BoC 51 := ⟨⟨by kernel_rfl⟩⟩
instance bo52 : BoC 52 := ⟨⟨by kernel_rfl⟩⟩
instance bo53 : BoC 53 := ⟨⟨by kernel_rfl⟩⟩
instance bo54 : BoC 54 := ⟨⟨by kernel_rfl⟩⟩
instance bo55 : BoC 55 := ⟨⟨by kernel_rfl⟩⟩
instance bo56 : BoC 56 := ⟨⟨by kernel_rfl⟩⟩
instance bo57 : BoC 57 := ⟨⟨by kernel_rfl⟩⟩
instance bo58 : BoC 58 := ⟨⟨by kernel_rfl⟩⟩
instance bo59 : BoC 59 := ⟨⟨by kernel_rfl⟩⟩
instance bo60 : BoC 60 := ⟨⟨by kernel_rfl⟩⟩
instance bo61 : BoC 61 := ⟨⟨by kernel_rfl⟩⟩
instance bo62 : BoC 62 := ⟨⟨by kernel_rfl⟩⟩
instance bo63 : BoC 63 := ⟨⟨by kernel_rfl⟩⟩
instance bo64 : BoC 64 := ⟨⟨by kernel_rfl⟩⟩
instance bo65 : BoC 65 := ⟨⟨by kernel_rfl⟩⟩
instance bo66 : BoC 66 := ⟨⟨by kernel_rfl⟩⟩
instance bo67 : BoC 67 := ⟨⟨by kernel_rfl⟩⟩
instance bo68 : BoC 68 := ⟨⟨by kernel_rfl⟩⟩
instance bo69 : BoC 69 := ⟨⟨by kernel_rfl⟩⟩
instance bo70 : BoC 70 := ⟨⟨by kernel_rfl⟩⟩
instance bo71 : BoC 71 := ⟨⟨by kernel_rfl⟩⟩
instance bo74 : BoC 74 := ⟨⟨by kernel_rfl⟩⟩
instance bo75 : BoC 75 := ⟨⟨by kernel_rfl⟩⟩
instance bo76 : BoC 76 := ⟨⟨by kernel_rfl⟩⟩
instance bo77 : BoC 77 := ⟨⟨by kernel_rfl⟩⟩
instance bo78 : BoC 78 := ⟨⟨by kernel_rfl⟩⟩
instance bo80 : BoC 80 := ⟨⟨by kernel_rfl⟩⟩
instance bo81 : BoC 81 := ⟨⟨by kernel_rfl⟩⟩
instance bo82 : BoC 82 := ⟨⟨by kernel_rfl⟩⟩
instance bo83 : BoC 83 := ⟨⟨by kernel_rfl⟩⟩
instance bo84 : BoC 84 := ⟨⟨by kernel_rfl⟩⟩
instance bo85 : BoC 85 := ⟨⟨by kernel_rfl⟩⟩
instance bo86 : BoC 86 := ⟨⟨by kernel_rfl⟩⟩
instance bo87 : BoC 87 := ⟨⟨by kernel_rfl⟩⟩
instance bo88 : BoC 88 := ⟨⟨by kernel_rfl⟩⟩
instance bo89 : BoC 89 := ⟨⟨by kernel_rfl⟩⟩
instance bo90 : BoC 90 := ⟨⟨by kernel_rfl⟩⟩
instance bo91 : BoC 91 := ⟨⟨by kernel_rfl⟩⟩
instance bo92 : BoC 92 := ⟨⟨by kernel_rfl⟩⟩
instance bo93 : BoC 93 := ⟨⟨by kernel_rfl⟩⟩
instance bo94 : BoC 94 := ⟨⟨by kernel_rfl⟩⟩
instance bo95 : BoC 95 := ⟨⟨by kernel_rfl⟩⟩
instance bo96 : BoC 96 := ⟨⟨by kernel_rfl⟩⟩
instance bo97 : BoC 97 := ⟨⟨by kernel_rfl⟩⟩
instance bo98 : BoC 98 := ⟨⟨by kernel_rfl⟩⟩
instance bo99 : BoC 99 := ⟨⟨by kernel_rfl⟩⟩
instance bo100 : BoC 100 := ⟨⟨by kernel_rfl⟩⟩
instance bo101 : BoC 101 := ⟨⟨by kernel_rfl⟩⟩
instance bo102 : BoC 102 := ⟨⟨by kernel_rfl⟩⟩
instance bo103 : BoC 103 := ⟨⟨by kernel_rfl⟩⟩
instance bo104 : BoC 104 := ⟨⟨by kernel_rfl⟩⟩
instance bo105 : BoC 105 := ⟨⟨by kernel_rfl⟩⟩
instance bo106 : BoC 106 := ⟨⟨by kernel_rfl⟩⟩
instance bo107 : BoC 107 := ⟨⟨by kernel_rfl⟩⟩
instance bo110 : BoC 110 := ⟨⟨by kernel_rfl⟩⟩
instance bo111 : BoC 111 := ⟨⟨by kernel_rfl⟩⟩
instance bo112 : BoC 112 := ⟨⟨by kernel_rfl⟩⟩
instance bo113 : BoC 113 := ⟨⟨by kernel_rfl⟩⟩
instance bo114 : BoC 114 := ⟨⟨by kernel_rfl⟩⟩
instance bo115 : BoC 115 := ⟨⟨by kernel_rfl⟩⟩
instance bo117 : BoC 117 := ⟨⟨by kernel_rfl⟩⟩
instance bo118 : BoC 118 := ⟨⟨by kernel_rfl⟩⟩
instance bo119 : BoC 119 := ⟨⟨by kernel_rfl⟩⟩
instance bo120 : BoC 120 := ⟨⟨by kernel_rfl⟩⟩
instance bo121 : BoC 121 := ⟨⟨by kernel_rfl⟩⟩
instance bo122 : BoC 122 := ⟨⟨by kernel_rfl⟩⟩
instance bo123 : BoC 123 := ⟨⟨by kernel_rfl⟩⟩
instance bo124 : BoC 124 := ⟨⟨by kernel_rfl⟩⟩
instance bo125 : BoC 125 := ⟨⟨by kernel_rfl⟩⟩
instance bo126 : BoC 126 := ⟨⟨by kernel_rfl⟩⟩
instance bo127 : BoC 127 := ⟨⟨by kernel_rfl⟩⟩
instance bo128 : BoC 128 := ⟨⟨by kernel_rfl⟩⟩
instance bo133 : BoC 133 := ⟨⟨by kernel_rfl⟩⟩
instance bo134 : BoC 134 := ⟨⟨by kernel_rfl⟩⟩
instance bo135 : BoC 135 := ⟨⟨by kernel_rfl⟩⟩
instance bo136 : BoC 136 := ⟨⟨by kernel_rfl⟩⟩
instance bo137 : BoC 137 := ⟨⟨by kernel_rfl⟩⟩
instance bo138 : BoC 138 := ⟨⟨by kernel_rfl⟩⟩
instance bo142 : BoC 142 := ⟨⟨by kernel_rfl⟩⟩
instance bo143 : BoC 143 := ⟨⟨by kernel_rfl⟩⟩
instance bo144 : BoC 144 := ⟨⟨by kernel_rfl⟩⟩
instance bo145 : BoC 145 := ⟨⟨by kernel_rfl⟩⟩
instance bo146 : BoC 146 := ⟨⟨by kernel_rfl⟩⟩
instance bo147 : BoC 147 := ⟨⟨by kernel_rfl⟩⟩
instance bo148 : BoC 148 := ⟨⟨by kernel_rfl⟩⟩
instance bo149 : BoC 149 := ⟨⟨by kernel_rfl⟩⟩
instance bo155 : BoC 155 := ⟨⟨by kernel_rfl⟩⟩
instance bo157 : BoC 157 := ⟨⟨by kernel_rfl⟩⟩
instance bo158 : BoC 158 := ⟨⟨by kernel_rfl⟩⟩
instance bo161 : BoC 161 := ⟨⟨by kernel_rfl⟩⟩
instance bo162 : BoC 162 := ⟨⟨by kernel_rfl⟩⟩
instance bo163 : BoC 163 := ⟨⟨by kernel_rfl⟩⟩
instance bo164 : BoC 164 := ⟨⟨by kernel_rfl⟩⟩
instance bo165 : BoC 165 := ⟨⟨by kernel_rfl⟩⟩
theorem ef26 : EfI Tryz.prog 26 3 1 8 [.d (.v (.int .i64 0))] := ⟨by kernel_rfl⟩
theorem ef27 : EfI Tryz.prog 27 46 3 24 [.d (.v (.int .i64 0)), .d (.v (.int .i64 0)), .d (.v (.int .i64 0))] := ⟨by kernel_rfl⟩
theorem ef28 : EfI Tryz.prog 28 93 6 80 [.d (.v (.int .i64 0)), .d (.v (.int .i64 0)), .d (.v (.int .i64 0)), .d (.v (.bool false)), .zero, .zero] := ⟨by kernel_rfl⟩
theorem ef35 : EfI Tryz.prog 35 75 1 1 [.d (.v (.int .u8 0))] := ⟨by kernel_rfl⟩
theorem ef52 : EfI Tryz.prog 52 60 7 56 [.d (.v (.int .i64 0)), .d (.v (.int .i64 0)), .d (.v (.int .i64 0)), .d (.v (.int .i64 0)), .d (.v (.int .i64 0)), .d (.v (.bool false)), .d (.v (.int .i64 0))] := ⟨by kernel_rfl⟩
theorem ef55 : EfI Tryz.prog 55 72 10 88 [.d (.v (.int .i64 0)), .d (.v (.int .i64 0)), .d (.v (.int .i64 0)), .d (.v (.int .i64 0)), .d (.v (.string ByteArray.empty)), .d (.v (.int .i64 0)), .d (.v (.int .i64 0)), .d (.v (.int .i64 0)), .d (.v (.int .i64 0)), .d (.v (.int .i64 0))] := ⟨by kernel_rfl⟩
theorem ef91 : EfI Tryz.prog 91 133 1 24 [.zero] := ⟨by kernel_rfl⟩
theorem ef101 : EfI Tryz.prog 101 138 7 104 [.zero, .zero, .zero, .d (.v (.int .i64 0)), .d (.v (.int .i64 0)), .d (.v (.int .i64 0)), .d (.v (.int .i64 0))] := ⟨by kernel_rfl⟩
theorem ef107 : EfI Tryz.prog 107 37 3 72 [.zero, .zero, .zero] := ⟨by kernel_rfl⟩
theorem ef133 : EfI Tryz.prog 133 4 1 1 [.d (.v (.bool false))] := ⟨by kernel_rfl⟩
theorem ef165 : EfI Tryz.prog 165 146 3 24 [.d (.v (.int .i64 0)), .d (.v (.int .i64 0)), .d (.v (.int .i64 0))] := ⟨by kernel_rfl⟩
theorem el22 : ElI Tryz.prog 22 1 := ⟨by kernel_rfl⟩
theorem el23 : ElI Tryz.prog 23 6 := ⟨by kernel_rfl⟩
theorem el26 : ElI Tryz.prog 26 1 := ⟨by kernel_rfl⟩
theorem el27 : ElI Tryz.prog 27 3 := ⟨by kernel_rfl⟩
theorem el28 : ElI Tryz.prog 28 6 := ⟨by kernel_rfl⟩
theorem el35 : ElI Tryz.prog 35 1 := ⟨by kernel_rfl⟩
theorem el52 : ElI Tryz.prog 52 7 := ⟨by kernel_rfl⟩
theorem el55 : ElI Tryz.prog 55 10 := ⟨by kernel_rfl⟩
theorem el91 : ElI Tryz.prog 91 1 := ⟨by kernel_rfl⟩
theorem el101 : ElI Tryz.prog 101 7 := ⟨by kernel_rfl⟩
theorem el107 : ElI Tryz.prog 107 3 := ⟨by kernel_rfl⟩
theorem el133 : ElI Tryz.prog 133 1 := ⟨by kernel_rfl⟩
theorem el165 : ElI Tryz.prog 165 3 := ⟨by kernel_rfl⟩
instance fd25_0 : FdC 25 0 0 none := ⟨⟨by kernel_rfl⟩⟩
instance fd25_1 : FdC 25 1 1 none := ⟨⟨by kernel_rfl⟩⟩
instance fd25_2 : FdC 25 2 2 none := ⟨⟨by kernel_rfl⟩⟩
instance fd25_3 : FdC 25 3 3 none := ⟨⟨by kernel_rfl⟩⟩
instance fd30_0 : FdC 30 0 0 none := ⟨⟨by kernel_rfl⟩⟩
instance fd30_1 : FdC 30 1 1 none := ⟨⟨by kernel_rfl⟩⟩
instance fd30_2 : FdC 30 2 2 none := ⟨⟨by kernel_rfl⟩⟩
instance fd30_3 : FdC 30 3 3 none := ⟨⟨by kernel_rfl⟩⟩
instance fd37_0 : FdC 37 0 0 none := ⟨⟨by kernel_rfl⟩⟩
instance fd37_1 : FdC 37 1 1 none := ⟨⟨by kernel_rfl⟩⟩
instance fd37_2 : FdC 37 2 2 none := ⟨⟨by kernel_rfl⟩⟩
instance fd39_0 : FdC 39 0 0 none := ⟨⟨by kernel_rfl⟩⟩
instance fd39_1 : FdC 39 1 1 none := ⟨⟨by kernel_rfl⟩⟩
instance fd39_2 : FdC 39 2 2 none := ⟨⟨by kernel_rfl⟩⟩
instance fd39_3 : FdC 39 3 3 none := ⟨⟨by kernel_rfl⟩⟩
instance fd39_4 : FdC 39 4 4 none := ⟨⟨by kernel_rfl⟩⟩
instance fd39_5 : FdC 39 5 5 none := ⟨⟨by kernel_rfl⟩⟩
instance fd39_6 : FdC 39 6 6 (some 3) := ⟨⟨by kernel_rfl⟩⟩
instance fd46_0 : FdC 46 0 0 none := ⟨⟨by kernel_rfl⟩⟩
instance fd46_1 : FdC 46 1 1 none := ⟨⟨by kernel_rfl⟩⟩
instance fd46_2 : FdC 46 2 2 none := ⟨⟨by kernel_rfl⟩⟩
instance fd51_0 : FdC 51 0 0 (some 4) := ⟨⟨by kernel_rfl⟩⟩
instance fd51_1 : FdC 51 1 4 none := ⟨⟨by kernel_rfl⟩⟩
instance fd51_2 : FdC 51 2 5 none := ⟨⟨by kernel_rfl⟩⟩
instance fd60_0 : FdC 60 0 0 none := ⟨⟨by kernel_rfl⟩⟩
instance fd60_1 : FdC 60 1 1 none := ⟨⟨by kernel_rfl⟩⟩
instance fd60_2 : FdC 60 2 2 none := ⟨⟨by kernel_rfl⟩⟩
instance fd60_3 : FdC 60 3 3 none := ⟨⟨by kernel_rfl⟩⟩
instance fd60_4 : FdC 60 4 4 none := ⟨⟨by kernel_rfl⟩⟩
instance fd60_5 : FdC 60 5 5 none := ⟨⟨by kernel_rfl⟩⟩
instance fd60_6 : FdC 60 6 6 none := ⟨⟨by kernel_rfl⟩⟩
instance fd68_1 : FdC 68 1 1 none := ⟨⟨by kernel_rfl⟩⟩
instance fd68_2 : FdC 68 2 2 none := ⟨⟨by kernel_rfl⟩⟩
instance fd70_0 : FdC 70 0 0 none := ⟨⟨by kernel_rfl⟩⟩
instance fd70_1 : FdC 70 1 1 none := ⟨⟨by kernel_rfl⟩⟩
instance fd70_2 : FdC 70 2 2 none := ⟨⟨by kernel_rfl⟩⟩
instance fd72_0 : FdC 72 0 0 none := ⟨⟨by kernel_rfl⟩⟩
instance fd72_1 : FdC 72 1 1 (some 4) := ⟨⟨by kernel_rfl⟩⟩
instance fd72_2 : FdC 72 2 5 (some 3) := ⟨⟨by kernel_rfl⟩⟩
instance fd90_0 : FdC 90 0 0 none := ⟨⟨by kernel_rfl⟩⟩
instance fd90_1 : FdC 90 1 1 none := ⟨⟨by kernel_rfl⟩⟩
instance fd90_2 : FdC 90 2 2 none := ⟨⟨by kernel_rfl⟩⟩
instance fd90_3 : FdC 90 3 3 none := ⟨⟨by kernel_rfl⟩⟩
instance fd90_4 : FdC 90 4 4 none := ⟨⟨by kernel_rfl⟩⟩
instance fd90_5 : FdC 90 5 5 none := ⟨⟨by kernel_rfl⟩⟩
instance fd93_0 : FdC 93 0 0 none := ⟨⟨by kernel_rfl⟩⟩
instance fd93_1 : FdC 93 1 1 none := ⟨⟨by kernel_rfl⟩⟩
instance fd93_2 : FdC 93 2 2 none := ⟨⟨by kernel_rfl⟩⟩
instance fd93_3 : FdC 93 3 3 none := ⟨⟨by kernel_rfl⟩⟩
instance fd93_4 : FdC 93 4 4 none := ⟨⟨by kernel_rfl⟩⟩
instance fd93_5 : FdC 93 5 5 none := ⟨⟨by kernel_rfl⟩⟩
instance fd109_0 : FdC 109 0 0 (some 4) := ⟨⟨by kernel_rfl⟩⟩
instance fd109_1 : FdC 109 1 4 none := ⟨⟨by kernel_rfl⟩⟩
instance fd109_2 : FdC 109 2 5 none := ⟨⟨by kernel_rfl⟩⟩
instance fd124_0 : FdC 124 0 0 (some 4) := ⟨⟨by kernel_rfl⟩⟩
instance fd124_1 : FdC 124 1 4 none := ⟨⟨by kernel_rfl⟩⟩
instance fd124_2 : FdC 124 2 5 (some 9) := ⟨⟨by kernel_rfl⟩⟩
instance fd124_3 : FdC 124 3 14 none := ⟨⟨by kernel_rfl⟩⟩
instance fd138_0 : FdC 138 0 0 (some 3) := ⟨⟨by kernel_rfl⟩⟩
instance fd138_1 : FdC 138 1 3 none := ⟨⟨by kernel_rfl⟩⟩
instance fd138_2 : FdC 138 2 4 (some 3) := ⟨⟨by kernel_rfl⟩⟩
theorem ib4 : IbI Tryz.prog 4 := ⟨by kernel_rfl⟩
theorem ik2 : IkI Tryz.prog 2 .i64 := ⟨by kernel_rfl⟩
theorem ik3 : IkI Tryz.prog 3 .i64 := ⟨by kernel_rfl⟩
theorem ik5 : IkI Tryz.prog 5 .u8 := ⟨by kernel_rfl⟩
theorem ik75 : IkI Tryz.prog 75 .u8 := ⟨by kernel_rfl⟩
theorem is26 : IsI Tryz.prog 26 := ⟨by kernel_rfl⟩
theorem is27 : IsI Tryz.prog 27 := ⟨by kernel_rfl⟩
theorem is28 : IsI Tryz.prog 28 := ⟨by kernel_rfl⟩
theorem is35 : IsI Tryz.prog 35 := ⟨by kernel_rfl⟩
theorem is55 : IsI Tryz.prog 55 := ⟨by kernel_rfl⟩
theorem is91 : IsI Tryz.prog 91 := ⟨by kernel_rfl⟩
theorem is101 : IsI Tryz.prog 101 := ⟨by kernel_rfl⟩
theorem is107 : IsI Tryz.prog 107 := ⟨by kernel_rfl⟩
theorem is133 : IsI Tryz.prog 133 := ⟨by kernel_rfl⟩
theorem is165 : IsI Tryz.prog 165 := ⟨by kernel_rfl⟩
instance ld2 : LdC 2 := ⟨⟨by kernel_rfl⟩⟩
instance ld3 : LdC 3 := ⟨⟨by kernel_rfl⟩⟩
instance ld4 : LdC 4 := ⟨⟨by kernel_rfl⟩⟩
instance ld5 : LdC 5 := ⟨⟨by kernel_rfl⟩⟩
instance ld22 : LdC 22 := ⟨⟨by kernel_rfl⟩⟩
instance ld23 : LdC 23 := ⟨⟨by kernel_rfl⟩⟩
instance ld25 : LdA 25 4 := ⟨⟨by kernel_rfl⟩⟩
instance ld26 : LdC 26 := ⟨⟨by kernel_rfl⟩⟩
instance ld27 : LdC 27 := ⟨⟨by kernel_rfl⟩⟩
instance ld28 : LdC 28 := ⟨⟨by kernel_rfl⟩⟩
instance ld30 : LdA 30 4 := ⟨⟨by kernel_rfl⟩⟩
instance ld35 : LdC 35 := ⟨⟨by kernel_rfl⟩⟩
instance ld37 : LdA 37 3 := ⟨⟨by kernel_rfl⟩⟩
instance ld39 : LdA 39 9 := ⟨⟨by kernel_rfl⟩⟩
instance ld46 : LdA 46 3 := ⟨⟨by kernel_rfl⟩⟩
instance ld51 : LdA 51 6 := ⟨⟨by kernel_rfl⟩⟩
instance ld55 : LdC 55 := ⟨⟨by kernel_rfl⟩⟩
instance ld60 : LdA 60 7 := ⟨⟨by kernel_rfl⟩⟩
instance ld70 : LdA 70 3 := ⟨⟨by kernel_rfl⟩⟩
instance ld72 : LdA 72 10 := ⟨⟨by kernel_rfl⟩⟩
instance ld75 : LdC 75 := ⟨⟨by kernel_rfl⟩⟩
instance ld88 : LdC 88 := ⟨⟨by kernel_rfl⟩⟩
instance ld90 : LdA 90 6 := ⟨⟨by kernel_rfl⟩⟩
instance ld91 : LdC 91 := ⟨⟨by kernel_rfl⟩⟩
instance ld93 : LdA 93 6 := ⟨⟨by kernel_rfl⟩⟩
instance ld107 : LdC 107 := ⟨⟨by kernel_rfl⟩⟩
instance ld109 : LdA 109 6 := ⟨⟨by kernel_rfl⟩⟩
instance ld133 : LdC 133 := ⟨⟨by kernel_rfl⟩⟩
instance ld146 : LdA 146 3 := ⟨⟨by kernel_rfl⟩⟩
theorem ns75 : NsI Tryz.prog 75 := ⟨by kernel_rfl⟩
theorem pl30 : PlI Tryz.prog 30 [.zero, .zero, .zero, .zero] [(0, 1), (1, 1), (2, 1), (3, 1)] := ⟨by kernel_rfl⟩
theorem pl37 : PlI Tryz.prog 37 [.zero, .zero, .zero] [(0, 1), (1, 1), (2, 1)] := ⟨by kernel_rfl⟩
theorem pl39 : PlI Tryz.prog 39 [.zero, .d (.v (.int .i64 0)), .d (.v (.int .i64 0)), .d (.v (.int .i64 0)), .d (.v (.int .i64 0)), .d (.v (.int .i64 0)), .zero, .zero, .zero] [(0, 1), (1, 1), (2, 1), (3, 1), (4, 1), (5, 1), (6, 3)] := ⟨by kernel_rfl⟩
theorem pl46 : PlI Tryz.prog 46 [.d (.v (.int .i64 0)), .d (.v (.int .i64 0)), .d (.v (.int .i64 0))] [(0, 1), (1, 1), (2, 1)] := ⟨by kernel_rfl⟩
theorem pl60 : PlI Tryz.prog 60 [.d (.v (.int .i64 0)), .d (.v (.int .i64 0)), .d (.v (.int .i64 0)), .d (.v (.int .i64 0)), .d (.v (.int .i64 0)), .d (.v (.bool false)), .d (.v (.int .i64 0))] [(0, 1), (1, 1), (2, 1), (3, 1), (4, 1), (5, 1), (6, 1)] := ⟨by kernel_rfl⟩
theorem pl68 : PlI Tryz.prog 68 [.d (.v (.int .i64 0)), .d (.v (.int .i64 0)), .d (.v (.int .i64 0)), .d (.v (.string ByteArray.empty))] [(0, 1), (1, 1), (2, 1), (3, 1)] := ⟨by kernel_rfl⟩
theorem pl70 : PlI Tryz.prog 70 [.d (.v (.int .i64 0)), .d (.v (.int .i64 0)), .d (.v (.int .i64 0))] [(0, 1), (1, 1), (2, 1)] := ⟨by kernel_rfl⟩
theorem pl72 : PlI Tryz.prog 72 [.d (.v (.int .i64 0)), .d (.v (.int .i64 0)), .d (.v (.int .i64 0)), .d (.v (.int .i64 0)), .d (.v (.string ByteArray.empty)), .d (.v (.int .i64 0)), .d (.v (.int .i64 0)), .d (.v (.int .i64 0)), .d (.v (.int .i64 0)), .d (.v (.int .i64 0))] [(0, 1), (1, 4), (5, 3), (8, 1), (9, 1)] := ⟨by kernel_rfl⟩
theorem pl93 : PlI Tryz.prog 93 [.d (.v (.int .i64 0)), .d (.v (.int .i64 0)), .d (.v (.int .i64 0)), .d (.v (.bool false)), .zero, .zero] [(0, 1), (1, 1), (2, 1), (3, 1), (4, 1), (5, 1)] := ⟨by kernel_rfl⟩
theorem pl109 : PlI Tryz.prog 109 [.zero, .zero, .zero, .zero, .zero, .zero] [(0, 4), (4, 1), (5, 1)] := ⟨by kernel_rfl⟩
theorem pl124 : PlI Tryz.prog 124 [.zero, .zero, .zero, .zero, .zero, .zero, .d (.v (.int .i64 0)), .d (.v (.int .i64 0)), .d (.v (.int .i64 0)), .d (.v (.int .i64 0)), .d (.v (.int .i64 0)), .zero, .zero, .zero, .zero] [(0, 4), (4, 1), (5, 9), (14, 1)] := ⟨by kernel_rfl⟩
theorem pl138 : PlI Tryz.prog 138 [.zero, .zero, .zero, .d (.v (.int .i64 0)), .d (.v (.int .i64 0)), .d (.v (.int .i64 0)), .d (.v (.int .i64 0))] [(0, 3), (3, 1), (4, 3)] := ⟨by kernel_rfl⟩
theorem pl146 : PlI Tryz.prog 146 [.d (.v (.int .i64 0)), .d (.v (.int .i64 0)), .d (.v (.int .i64 0))] [(0, 1), (1, 1), (2, 1)] := ⟨by kernel_rfl⟩
instance sz2 : SzC 2 1 := ⟨⟨by kernel_rfl⟩⟩
instance sz3 : SzC 3 1 := ⟨⟨by kernel_rfl⟩⟩
instance sz4 : SzC 4 1 := ⟨⟨by kernel_rfl⟩⟩
instance sz26 : SzC 26 1 := ⟨⟨by kernel_rfl⟩⟩
instance sz27 : SzC 27 1 := ⟨⟨by kernel_rfl⟩⟩
instance sz28 : SzC 28 1 := ⟨⟨by kernel_rfl⟩⟩
instance sz30 : SzC 30 4 := ⟨⟨by kernel_rfl⟩⟩
instance sz35 : SzC 35 1 := ⟨⟨by kernel_rfl⟩⟩
instance sz37 : SzC 37 3 := ⟨⟨by kernel_rfl⟩⟩
instance sz39 : SzC 39 9 := ⟨⟨by kernel_rfl⟩⟩
instance sz46 : SzC 46 3 := ⟨⟨by kernel_rfl⟩⟩
instance sz55 : SzC 55 1 := ⟨⟨by kernel_rfl⟩⟩
instance sz60 : SzC 60 7 := ⟨⟨by kernel_rfl⟩⟩
instance sz70 : SzC 70 3 := ⟨⟨by kernel_rfl⟩⟩
instance sz72 : SzC 72 10 := ⟨⟨by kernel_rfl⟩⟩
instance sz75 : SzC 75 1 := ⟨⟨by kernel_rfl⟩⟩
instance sz90 : SzC 90 6 := ⟨⟨by kernel_rfl⟩⟩
instance sz91 : SzC 91 1 := ⟨⟨by kernel_rfl⟩⟩
instance sz93 : SzC 93 6 := ⟨⟨by kernel_rfl⟩⟩
instance sz109 : SzC 109 6 := ⟨⟨by kernel_rfl⟩⟩
instance sz146 : SzC 146 3 := ⟨⟨by kernel_rfl⟩⟩
theorem zr30 : ZrI Tryz.prog 30 [.zero, .zero, .zero, .zero] := ⟨by kernel_rfl⟩
theorem zr37 : ZrI Tryz.prog 37 [.zero, .zero, .zero] := ⟨by kernel_rfl⟩
theorem zr39 : ZrI Tryz.prog 39 [.zero, .d (.v (.int .i64 0)), .d (.v (.int .i64 0)), .d (.v (.int .i64 0)), .d (.v (.int .i64 0)), .d (.v (.int .i64 0)), .zero, .zero, .zero] := ⟨by kernel_rfl⟩
theorem zr46 : ZrI Tryz.prog 46 [.d (.v (.int .i64 0)), .d (.v (.int .i64 0)), .d (.v (.int .i64 0))] := ⟨by kernel_rfl⟩
theorem zr60 : ZrI Tryz.prog 60 [.d (.v (.int .i64 0)), .d (.v (.int .i64 0)), .d (.v (.int .i64 0)), .d (.v (.int .i64 0)), .d (.v (.int .i64 0)), .d (.v (.bool false)), .d (.v (.int .i64 0))] := ⟨by kernel_rfl⟩
theorem zr70 : ZrI Tryz.prog 70 [.d (.v (.int .i64 0)), .d (.v (.int .i64 0)), .d (.v (.int .i64 0))] := ⟨by kernel_rfl⟩
theorem zr72 : ZrI Tryz.prog 72 [.d (.v (.int .i64 0)), .d (.v (.int .i64 0)), .d (.v (.int .i64 0)), .d (.v (.int .i64 0)), .d (.v (.string ByteArray.empty)), .d (.v (.int .i64 0)), .d (.v (.int .i64 0)), .d (.v (.int .i64 0)), .d (.v (.int .i64 0)), .d (.v (.int .i64 0))] := ⟨by kernel_rfl⟩
theorem zr90 : ZrI Tryz.prog 90 [.d (.v (.int .u8 0)), .d (.v (.int .u8 0)), .d (.v (.int .u8 0)), .d (.v (.bool false)), .d (.v (.int .u16 0)), .d (.v (.int .u16 0))] := ⟨by kernel_rfl⟩
theorem zr93 : ZrI Tryz.prog 93 [.d (.v (.int .i64 0)), .d (.v (.int .i64 0)), .d (.v (.int .i64 0)), .d (.v (.bool false)), .zero, .zero] := ⟨by kernel_rfl⟩
theorem zr109 : ZrI Tryz.prog 109 [.zero, .zero, .zero, .zero, .zero, .zero] := ⟨by kernel_rfl⟩
theorem zr146 : ZrI Tryz.prog 146 [.d (.v (.int .i64 0)), .d (.v (.int .i64 0)), .d (.v (.int .i64 0))] := ⟨by kernel_rfl⟩
end Go.Proofs.YtdpeoolildjohaaGreatDoor

