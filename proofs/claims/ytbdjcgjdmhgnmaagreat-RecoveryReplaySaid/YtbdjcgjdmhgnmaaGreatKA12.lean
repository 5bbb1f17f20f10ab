import Derived.Test.YtbdjcgjdmhgnmaaGreatKA10
import Derived.Test.YtbdjcgjdmhgnmaaGreatKA11
namespace Go.Proofs.YtbdjcgjdmhgnmaaGreat
open Go Go.RowKit
set_option linter.unusedSimpArgs false
set_option linter.unusedVariables false
def nilL : LinkD := ⟨0, 0, 0, false, 0, 0⟩
def nilA : ActD := ⟨0, nilE, 0, 0, 0, 0, 0⟩
def nilG : SigD := ⟨0, 0, 0, 0, 0, false, 0⟩
def sigRow (s : SigD) : List D := [.v (.int .i64 s.kind), .v (.int .i64 s.token), .v (.int .i64 s.round), .v (.int .i64 s.replica), .v (.int .i64 s.ver), .v (.bool s.pass), .v (.int .i64 s.table)]
def dSigs (l : List SigD) : List (List D) := l.map sigRow
def dCtls (l : List CtlD) : List (List D) := l.map ctlRow
theorem rowsG {α : Type} {f : α → List D} {xs : List α} {n : Int} (d : α) (h : 0 ≤ n ∧ n < xs.length) : 0 ≤ n ∧ (xs.map f)[n.toNat]? = some (f (xs.getD n.toNat d)) := ⟨h.1, row_get h⟩
theorem rowsN {α : Type} {f : α → List D} {xs : List α} {n : Nat} (d : α) (h : n < xs.length) : (xs.map f)[n]? = some (f (xs.getD n d)) := row_getN h
theorem rowsZ {α : Type} {f : α → List D} {xs : List α} {n : Int} (d : α) (h : 0 ≤ n ∧ n < xs.length) : (xs.map f)[n.toNat]? = some (f (xs.getD n.toNat d)) := row_get h
theorem gInts {xs : List (Int)} {n : Int} (h : 0 ≤ n ∧ n < xs.length) : 0 ≤ n ∧ (dInts xs)[n.toNat]? = some ([.v (.int .i64 (xs.getD n.toNat 0))]) := rowsG 0 h
theorem gIntsN {xs : List (Int)} {k : Nat} (h : k < xs.length) : 0 ≤ (k : Int) ∧ (dInts xs)[(k : Int).toNat]? = some ([.v (.int .i64 (xs.getD k 0))]) := ⟨Int.natCast_nonneg k, rowsN 0 h⟩
theorem zInts {xs : List (Int)} {n : Int} (h : 0 ≤ n ∧ n < xs.length) : (dInts xs)[n.toNat]? = some ([.v (.int .i64 (xs.getD n.toNat 0))]) := rowsZ 0 h
theorem lInts {xs : List (Int)} : (dInts xs).length = xs.length := List.length_map _
theorem aInts {xs ys : List (Int)} : dInts xs ++ dInts ys = dInts (xs ++ ys) := List.map_append.symm
theorem nInts {xs : List (Int)} {a b : Nat} : ((dInts xs).drop a).take b = dInts ((xs.drop a).take b) := by unfold dInts; rw [List.map_take, List.map_drop]
theorem sInts {xs : List (Int)} {x : Int} : dInts xs ++ [[.v (.int .i64 x)]] = dInts (xs ++ [x]) := aInts (ys := [x])
theorem oInts {x : Int} : [[.v (.int .i64 x)]] = dInts [x] := rfl
theorem wInts {xs : List (Int)} {j : Nat} {x : Int} : (dInts xs).set j ([.v (.int .i64 x)]) = dInts (xs.set j x) := List.map_set.symm
theorem gSets {xs : List (Int)} {n : Int} (h : 0 ≤ n ∧ n < xs.length) : 0 ≤ n ∧ (dSets xs)[n.toNat]? = some ([.v (.int .u8 (xs.getD n.toNat 0))]) := rowsG 0 h
theorem gSetsN {xs : List (Int)} {k : Nat} (h : k < xs.length) : 0 ≤ (k : Int) ∧ (dSets xs)[(k : Int).toNat]? = some ([.v (.int .u8 (xs.getD k 0))]) := ⟨Int.natCast_nonneg k, rowsN 0 h⟩
theorem zSets {xs : List (Int)} {n : Int} (h : 0 ≤ n ∧ n < xs.length) : (dSets xs)[n.toNat]? = some ([.v (.int .u8 (xs.getD n.toNat 0))]) := rowsZ 0 h
theorem lSets {xs : List (Int)} : (dSets xs).length = xs.length := List.length_map _
theorem aSets {xs ys : List (Int)} : dSets xs ++ dSets ys = dSets (xs ++ ys) := List.map_append.symm
theorem sSets {xs : List (Int)} {x : Int} : dSets xs ++ [[.v (.int .u8 x)]] = dSets (xs ++ [x]) := aSets (ys := [x])
theorem oSets {x : Int} : [[.v (.int .u8 x)]] = dSets [x] := rfl
theorem wSets {xs : List (Int)} {j : Nat} {x : Int} : (dSets xs).set j ([.v (.int .u8 x)]) = dSets (xs.set j x) := List.map_set.symm
theorem rSets {n : Nat} {x : Int} : List.replicate n ([.v (.int .u8 x)]) = dSets (List.replicate n x) := by unfold dSets; rw [List.map_replicate]
theorem gBools {xs : List (Bool)} {n : Int} (h : 0 ≤ n ∧ n < xs.length) : 0 ≤ n ∧ (dBools xs)[n.toNat]? = some ([.v (.bool (xs.getD n.toNat false))]) := rowsG false h
theorem gBoolsN {xs : List (Bool)} {k : Nat} (h : k < xs.length) : 0 ≤ (k : Int) ∧ (dBools xs)[(k : Int).toNat]? = some ([.v (.bool (xs.getD k false))]) := ⟨Int.natCast_nonneg k, rowsN false h⟩
theorem zBools {xs : List (Bool)} {n : Int} (h : 0 ≤ n ∧ n < xs.length) : (dBools xs)[n.toNat]? = some ([.v (.bool (xs.getD n.toNat false))]) := rowsZ false h
theorem lBools {xs : List (Bool)} : (dBools xs).length = xs.length := List.length_map _
theorem aBools {xs ys : List (Bool)} : dBools xs ++ dBools ys = dBools (xs ++ ys) := List.map_append.symm
theorem sBools {xs : List (Bool)} {x : Bool} : dBools xs ++ [[.v (.bool x)]] = dBools (xs ++ [x]) := aBools (ys := [x])
theorem oBools {x : Bool} : [[.v (.bool x)]] = dBools [x] := rfl
theorem wBools {xs : List (Bool)} {j : Nat} {x : Bool} : (dBools xs).set j ([.v (.bool x)]) = dBools (xs.set j x) := List.map_set.symm
theorem gMat {xs : List (List Bool)} {n : Int} (h : 0 ≤ n ∧ n < xs.length) : 0 ≤ n ∧ (dMat xs)[n.toNat]? = some ([.sl 1 (dBools (xs.getD n.toNat []))]) := rowsG [] h
theorem gMatN {xs : List (List Bool)} {k : Nat} (h : k < xs.length) : 0 ≤ (k : Int) ∧ (dMat xs)[(k : Int).toNat]? = some ([.sl 1 (dBools (xs.getD k []))]) := ⟨Int.natCast_nonneg k, rowsN [] h⟩
theorem zMat {xs : List (List Bool)} {n : Int} (h : 0 ≤ n ∧ n < xs.length) : (dMat xs)[n.toNat]? = some ([.sl 1 (dBools (xs.getD n.toNat []))]) := rowsZ [] h
theorem lMat {xs : List (List Bool)} : (dMat xs).length = xs.length := List.length_map _
theorem aMat {xs ys : List (List Bool)} : dMat xs ++ dMat ys = dMat (xs ++ ys) := List.map_append.symm
theorem sMat {xs : List (List Bool)} {x : List Bool} : dMat xs ++ [[.sl 1 (dBools x)]] = dMat (xs ++ [x]) := aMat (ys := [x])
theorem oMat {x : List Bool} : [[.sl 1 (dBools x)]] = dMat [x] := rfl
theorem wMat {xs : List (List Bool)} {j : Nat} {x : List Bool} : (dMat xs).set j ([.sl 1 (dBools x)]) = dMat (xs.set j x) := List.map_set.symm
theorem gTabs {xs : List (Tab)} {n : Int} (h : 0 ≤ n ∧ n < xs.length) : 0 ≤ n ∧ (dTabs xs)[n.toNat]? = some (tabRow (xs.getD n.toNat nilT)) := rowsG nilT h
theorem gTabsN {xs : List (Tab)} {k : Nat} (h : k < xs.length) : 0 ≤ (k : Int) ∧ (dTabs xs)[(k : Int).toNat]? = some (tabRow (xs.getD k nilT)) := ⟨Int.natCast_nonneg k, rowsN nilT h⟩
theorem zTabs {xs : List (Tab)} {n : Int} (h : 0 ≤ n ∧ n < xs.length) : (dTabs xs)[n.toNat]? = some (tabRow (xs.getD n.toNat nilT)) := rowsZ nilT h
theorem lTabs {xs : List (Tab)} : (dTabs xs).length = xs.length := List.length_map _
theorem aTabs {xs ys : List (Tab)} : dTabs xs ++ dTabs ys = dTabs (xs ++ ys) := List.map_append.symm
theorem sTabs {xs : List (Tab)} {x : Tab} : dTabs xs ++ [tabRow x] = dTabs (xs ++ [x]) := aTabs (ys := [x])
theorem wTabs {xs : List (Tab)} {j : Nat} {x : Tab} : (dTabs xs).set j (tabRow x) = dTabs (xs.set j x) := List.map_set.symm
theorem gMixes {xs : List (MixD)} {n : Int} (h : 0 ≤ n ∧ n < xs.length) : 0 ≤ n ∧ (dMixes xs)[n.toNat]? = some (mixRow (xs.getD n.toNat nilM)) := rowsG nilM h
theorem gMixesN {xs : List (MixD)} {k : Nat} (h : k < xs.length) : 0 ≤ (k : Int) ∧ (dMixes xs)[(k : Int).toNat]? = some (mixRow (xs.getD k nilM)) := ⟨Int.natCast_nonneg k, rowsN nilM h⟩
theorem zMixes {xs : List (MixD)} {n : Int} (h : 0 ≤ n ∧ n < xs.length) : (dMixes xs)[n.toNat]? = some (mixRow (xs.getD n.toNat nilM)) := rowsZ nilM h
theorem lMixes {xs : List (MixD)} : (dMixes xs).length = xs.length := List.length_map _
theorem aMixes {xs ys : List (MixD)} : dMixes xs ++ dMixes ys = dMixes (xs ++ ys) := List.map_append.symm
theorem sMixes {xs : List (MixD)} {x : MixD} : dMixes xs ++ [mixRow x] = dMixes (xs ++ [x]) := aMixes (ys := [x])
theorem wMixes {xs : List (MixD)} {j : Nat} {x : MixD} : (dMixes xs).set j (mixRow x) = dMixes (xs.set j x) := List.map_set.symm
theorem gSteps {xs : List (StepD)} {n : Int} (h : 0 ≤ n ∧ n < xs.length) : 0 ≤ n ∧ (dSteps xs)[n.toNat]? = some (stepRow (xs.getD n.toNat nilS)) := rowsG nilS h
theorem gStepsN {xs : List (StepD)} {k : Nat} (h : k < xs.length) : 0 ≤ (k : Int) ∧ (dSteps xs)[(k : Int).toNat]? = some (stepRow (xs.getD k nilS)) := ⟨Int.natCast_nonneg k, rowsN nilS h⟩
theorem zSteps {xs : List (StepD)} {n : Int} (h : 0 ≤ n ∧ n < xs.length) : (dSteps xs)[n.toNat]? = some (stepRow (xs.getD n.toNat nilS)) := rowsZ nilS h
theorem lSteps {xs : List (StepD)} : (dSteps xs).length = xs.length := List.length_map _
theorem aSteps {xs ys : List (StepD)} : dSteps xs ++ dSteps ys = dSteps (xs ++ ys) := List.map_append.symm
theorem sSteps {xs : List (StepD)} {x : StepD} : dSteps xs ++ [stepRow x] = dSteps (xs ++ [x]) := aSteps (ys := [x])
theorem wSteps {xs : List (StepD)} {j : Nat} {x : StepD} : (dSteps xs).set j (stepRow x) = dSteps (xs.set j x) := List.map_set.symm
theorem gNodes {xs : List (NodeD)} {n : Int} (h : 0 ≤ n ∧ n < xs.length) : 0 ≤ n ∧ (dNodes xs)[n.toNat]? = some (nodeRow (xs.getD n.toNat nilN)) := rowsG nilN h
theorem gNodesN {xs : List (NodeD)} {k : Nat} (h : k < xs.length) : 0 ≤ (k : Int) ∧ (dNodes xs)[(k : Int).toNat]? = some (nodeRow (xs.getD k nilN)) := ⟨Int.natCast_nonneg k, rowsN nilN h⟩
theorem zNodes {xs : List (NodeD)} {n : Int} (h : 0 ≤ n ∧ n < xs.length) : (dNodes xs)[n.toNat]? = some (nodeRow (xs.getD n.toNat nilN)) := rowsZ nilN h
theorem lNodes {xs : List (NodeD)} : (dNodes xs).length = xs.length := List.length_map _
theorem aNodes {xs ys : List (NodeD)} : dNodes xs ++ dNodes ys = dNodes (xs ++ ys) := List.map_append.symm
theorem sNodes {xs : List (NodeD)} {x : NodeD} : dNodes xs ++ [nodeRow x] = dNodes (xs ++ [x]) := aNodes (ys := [x])
theorem wNodes {xs : List (NodeD)} {j : Nat} {x : NodeD} : (dNodes xs).set j (nodeRow x) = dNodes (xs.set j x) := List.map_set.symm
theorem gConfs {xs : List (ConfD)} {n : Int} (h : 0 ≤ n ∧ n < xs.length) : 0 ≤ n ∧ (dConfs xs)[n.toNat]? = some (confRow (xs.getD n.toNat nilC)) := rowsG nilC h
theorem gConfsN {xs : List (ConfD)} {k : Nat} (h : k < xs.length) : 0 ≤ (k : Int) ∧ (dConfs xs)[(k : Int).toNat]? = some (confRow (xs.getD k nilC)) := ⟨Int.natCast_nonneg k, rowsN nilC h⟩
theorem zConfs {xs : List (ConfD)} {n : Int} (h : 0 ≤ n ∧ n < xs.length) : (dConfs xs)[n.toNat]? = some (confRow (xs.getD n.toNat nilC)) := rowsZ nilC h
theorem lConfs {xs : List (ConfD)} : (dConfs xs).length = xs.length := List.length_map _
theorem aConfs {xs ys : List (ConfD)} : dConfs xs ++ dConfs ys = dConfs (xs ++ ys) := List.map_append.symm
theorem sConfs {xs : List (ConfD)} {x : ConfD} : dConfs xs ++ [confRow x] = dConfs (xs ++ [x]) := aConfs (ys := [x])
theorem wConfs {xs : List (ConfD)} {j : Nat} {x : ConfD} : (dConfs xs).set j (confRow x) = dConfs (xs.set j x) := List.map_set.symm
theorem gEnts {xs : List (EntD)} {n : Int} (h : 0 ≤ n ∧ n < xs.length) : 0 ≤ n ∧ (dEnts xs)[n.toNat]? = some (entRow (xs.getD n.toNat nilE)) := rowsG nilE h
theorem gEntsN {xs : List (EntD)} {k : Nat} (h : k < xs.length) : 0 ≤ (k : Int) ∧ (dEnts xs)[(k : Int).toNat]? = some (entRow (xs.getD k nilE)) := ⟨Int.natCast_nonneg k, rowsN nilE h⟩
theorem zEnts {xs : List (EntD)} {n : Int} (h : 0 ≤ n ∧ n < xs.length) : (dEnts xs)[n.toNat]? = some (entRow (xs.getD n.toNat nilE)) := rowsZ nilE h
theorem lEnts {xs : List (EntD)} : (dEnts xs).length = xs.length := List.length_map _
theorem aEnts {xs ys : List (EntD)} : dEnts xs ++ dEnts ys = dEnts (xs ++ ys) := List.map_append.symm
theorem nEnts {xs : List (EntD)} {a b : Nat} : ((dEnts xs).drop a).take b = dEnts ((xs.drop a).take b) := by unfold dEnts; rw [List.map_take, List.map_drop]
theorem sEnts {xs : List (EntD)} {x : EntD} : dEnts xs ++ [entRow x] = dEnts (xs ++ [x]) := aEnts (ys := [x])
theorem wEnts {xs : List (EntD)} {j : Nat} {x : EntD} : (dEnts xs).set j (entRow x) = dEnts (xs.set j x) := List.map_set.symm
theorem gActs {xs : List (ActD)} {n : Int} (h : 0 ≤ n ∧ n < xs.length) : 0 ≤ n ∧ (dActs xs)[n.toNat]? = some (actRow (xs.getD n.toNat nilA)) := rowsG nilA h
theorem gActsN {xs : List (ActD)} {k : Nat} (h : k < xs.length) : 0 ≤ (k : Int) ∧ (dActs xs)[(k : Int).toNat]? = some (actRow (xs.getD k nilA)) := ⟨Int.natCast_nonneg k, rowsN nilA h⟩
theorem zActs {xs : List (ActD)} {n : Int} (h : 0 ≤ n ∧ n < xs.length) : (dActs xs)[n.toNat]? = some (actRow (xs.getD n.toNat nilA)) := rowsZ nilA h
theorem lActs {xs : List (ActD)} : (dActs xs).length = xs.length := List.length_map _
theorem aActs {xs ys : List (ActD)} : dActs xs ++ dActs ys = dActs (xs ++ ys) := List.map_append.symm
theorem wActs {xs : List (ActD)} {j : Nat} {x : ActD} : (dActs xs).set j (actRow x) = dActs (xs.set j x) := List.map_set.symm
theorem gCtls {xs : List (CtlD)} {n : Int} (h : 0 ≤ n ∧ n < xs.length) : 0 ≤ n ∧ (dCtls xs)[n.toNat]? = some (ctlRow (xs.getD n.toNat nilCtl)) := rowsG nilCtl h
theorem gCtlsN {xs : List (CtlD)} {k : Nat} (h : k < xs.length) : 0 ≤ (k : Int) ∧ (dCtls xs)[(k : Int).toNat]? = some (ctlRow (xs.getD k nilCtl)) := ⟨Int.natCast_nonneg k, rowsN nilCtl h⟩
theorem zCtls {xs : List (CtlD)} {n : Int} (h : 0 ≤ n ∧ n < xs.length) : (dCtls xs)[n.toNat]? = some (ctlRow (xs.getD n.toNat nilCtl)) := rowsZ nilCtl h
theorem lCtls {xs : List (CtlD)} : (dCtls xs).length = xs.length := List.length_map _
theorem aCtls {xs ys : List (CtlD)} : dCtls xs ++ dCtls ys = dCtls (xs ++ ys) := List.map_append.symm
theorem wCtls {xs : List (CtlD)} {j : Nat} {x : CtlD} : (dCtls xs).set j (ctlRow x) = dCtls (xs.set j x) := List.map_set.symm
theorem gLinks {xs : List (LinkD)} {n : Int} (h : 0 ≤ n ∧ n < xs.length) : 0 ≤ n ∧ (dLinks xs)[n.toNat]? = some (linkRow (xs.getD n.toNat nilL)) := rowsG nilL h
theorem gLinksN {xs : List (LinkD)} {k : Nat} (h : k < xs.length) : 0 ≤ (k : Int) ∧ (dLinks xs)[(k : Int).toNat]? = some (linkRow (xs.getD k nilL)) := ⟨Int.natCast_nonneg k, rowsN nilL h⟩
theorem zLinks {xs : List (LinkD)} {n : Int} (h : 0 ≤ n ∧ n < xs.length) : (dLinks xs)[n.toNat]? = some (linkRow (xs.getD n.toNat nilL)) := rowsZ nilL h
theorem lLinks {xs : List (LinkD)} : (dLinks xs).length = xs.length := List.length_map _
theorem wLinks {xs : List (LinkD)} {j : Nat} {x : LinkD} : (dLinks xs).set j (linkRow x) = dLinks (xs.set j x) := List.map_set.symm
theorem gSigs {xs : List (SigD)} {n : Int} (h : 0 ≤ n ∧ n < xs.length) : 0 ≤ n ∧ (dSigs xs)[n.toNat]? = some (sigRow (xs.getD n.toNat nilG)) := rowsG nilG h
theorem gSigsN {xs : List (SigD)} {k : Nat} (h : k < xs.length) : 0 ≤ (k : Int) ∧ (dSigs xs)[(k : Int).toNat]? = some (sigRow (xs.getD k nilG)) := ⟨Int.natCast_nonneg k, rowsN nilG h⟩
theorem zSigs {xs : List (SigD)} {n : Int} (h : 0 ≤ n ∧ n < xs.length) : (dSigs xs)[n.toNat]? = some (sigRow (xs.getD n.toNat nilG)) := rowsZ nilG h
theorem lSigs {xs : List (SigD)} : (dSigs xs).length = xs.length := List.length_map _
theorem wSigs {xs : List (SigD)} {j : Nat} {x : SigD} : (dSigs xs).set j (sigRow x) = dSigs (xs.set j x) := List.map_set.symm
theorem sStepsC {xs : List StepD} {a b c : Int} : dSteps xs ++ [[.v (.int .i64 a), .v (.int .i64 b), .v (.int .i64 c)]] = dSteps (xs ++ [⟨a, b, c⟩]) := sSteps (x := ⟨a, b, c⟩)
theorem sConfsC {xs : List ConfD} {a b c : Int} : dConfs xs ++ [[.v (.int .i64 a), .v (.int .i64 b), .v (.int .i64 c)]] = dConfs (xs ++ [⟨a, b, c⟩]) := sConfs (x := ⟨a, b, c⟩)
theorem sMixesC {xs : List MixD} {a b c : List Int} : dMixes xs ++ [[.sl 1 (dInts a), .sl 1 (dInts b), .sl 1 (dSets c)]] = dMixes (xs ++ [⟨a, b, c⟩]) := sMixes (x := ⟨a, b, c⟩)
theorem sTabsC {xs : List Tab} {a b c : Int} {d : Bool} {e f : List (List Bool)} : dTabs xs ++ [[.v (.int .i64 a), .v (.int .i64 b), .v (.int .i64 c), .v (.bool d), .sl 1 (dMat e), .sl 1 (dMat f)]] = dTabs (xs ++ [⟨a, b, c, d, e, f⟩]) := sTabs (x := ⟨a, b, c, d, e, f⟩)
theorem sEntsC {xs : List EntD} {a b c : Int} {d : ByteArray} : dEnts xs ++ [[.v (.int .i64 a), .v (.int .i64 b), .v (.int .i64 c), .v (.string d)]] = dEnts (xs ++ [⟨a, b, c, d⟩]) := sEnts (x := ⟨a, b, c, d⟩)
theorem sNodesC {xs : List NodeD} {a b : List Int} {c : List Int} {n k i v : Int} : dNodes xs ++ [[.sl 1 (dInts a), .sl 1 (dInts b), .sl 1 (dSets c), .v (.int .i64 n), .v (.int .i64 k), .v (.int .i64 i), .v (.int .i64 v)]] = dNodes (xs ++ [⟨⟨a, b, c⟩, n, ⟨k, i, v⟩⟩]) := sNodes (x := ⟨⟨a, b, c⟩, n, ⟨k, i, v⟩⟩)
end Go.Proofs.YtbdjcgjdmhgnmaaGreat

namespace Go.Proofs.YtbdjcgjdmhgnmaaGreat
open Go Go.RowKit
theorem bo8 : BoI Tryz.prog 8 := ⟨by kernel_rfl⟩
theorem bo9 : BoI Tryz.prog 9 := ⟨by kernel_rfl⟩
theorem bo10 : BoI Tryz.prog 10 := ⟨by kernel_rfl⟩
theorem bo11 : BoI Tryz.prog 11 := ⟨by kernel_rfl⟩
theorem bo12 : BoI Tryz.prog 12 := ⟨by kernel_rfl⟩
theorem bo13 : BoI Tryz.prog 13 := ⟨by kernel_rfl⟩
theorem bo14 : BoI Tryz.prog 14 := ⟨by kernel_rfl⟩
theorem bo15 : BoI Tryz.prog 15 := ⟨by kernel_rfl⟩
theorem bo19 : BoI Tryz.prog 19 := ⟨by kernel_rfl⟩
theorem bo20 : BoI Tryz.prog 20 := ⟨by kernel_rfl⟩
theorem bo21 : BoI Tryz.prog 21 := ⟨by kernel_rfl⟩
theorem bo22 : BoI Tryz.prog 22 := ⟨by kernel_rfl⟩
theorem bo23 : BoI Tryz.prog 23 := ⟨by kernel_rfl⟩
theorem bo24 : BoI Tryz.prog 24 := ⟨by kernel_rfl⟩
theorem bo25 : BoI Tryz.prog 25 := ⟨by kernel_rfl⟩
theorem bo26 : BoI Tryz.prog 26 := ⟨by kernel_rfl⟩
theorem bo27 : BoI Tryz.prog 27 := ⟨by kernel_rfl⟩
theorem bo28 : BoI Tryz.prog 28 := ⟨by kernel_rfl⟩
theorem bo29 : BoI Tryz.prog 29 := ⟨by kernel_rfl⟩
theorem bo30 : BoI Tryz.prog 30 := ⟨by kernel_rfl⟩
theorem bo31 : BoI Tryz.prog 31 := ⟨by kernel_rfl⟩
theorem bo32 : BoI Tryz.prog 32 := ⟨by kernel_rfl⟩
theorem bo36 : BoI Tryz.prog 36 := ⟨by kernel_rfl⟩
theorem bo37 : BoI Tryz.prog 37 := ⟨by kernel_rfl⟩
theorem bo38 : BoI Tryz.prog 38 := ⟨by kernel_rfl⟩
theorem bo39 : BoI Tryz.prog 39 := ⟨by kernel_rfl⟩
theorem bo40 : BoI Tryz.prog 40 := ⟨by kernel_rfl⟩
theorem bo41 : BoI Tryz.prog 41 := ⟨by kernel_rfl⟩
theorem bo42 : BoI Tryz.prog 42 := ⟨by kernel_rfl⟩
theorem bo43 : BoI Tryz.prog 43 := ⟨by kernel_rfl⟩
theorem bo44 : BoI Tryz.prog 44 := ⟨by kernel_rfl⟩
theorem bo45 : BoI Tryz.prog 45 := ⟨by kernel_rfl⟩
theorem bo46 : BoI Tryz.prog 46 := ⟨by kernel_rfl⟩
theorem bo47 : BoI Tryz.prog 47 := ⟨by kernel_rfl⟩
theorem bo48 : BoI Tryz.prog 48 := ⟨by kernel_rfl⟩
theorem bo49 : BoI Tryz.prog 49 := ⟨by kernel_rfl⟩
theorem bo50 : BoI Tryz.prog 50 := ⟨by kernel_rfl⟩
theorem bo51 : BoI Tryz.prog 51 := ⟨by kernel_rfl⟩
theorem bo52 : BoI Tryz.prog 52 := ⟨by kernel_rfl⟩
theorem bo53 : BoI Tryz.prog 53 := ⟨by kernel_rfl⟩
theorem bo54 : BoI Tryz.prog 54 := ⟨by kernel_rfl⟩
theorem bo55 : BoI Tryz.prog 55 := ⟨by kernel_rfl⟩
theorem bo56 : BoI Tryz.prog 56 := ⟨by kernel_rfl⟩
theorem bo57 : BoI Tryz.prog 57 := ⟨by kernel_rfl⟩
theorem bo58 : BoI Tryz.prog 58 := ⟨by kernel_rfl⟩
theorem bo59 : BoI Tryz.prog 59 := ⟨by kernel_rfl⟩
theorem bo60 : BoI Tryz.prog 60 := ⟨by kernel_rfl⟩
theorem bo61 : BoI Tryz.prog 61 := ⟨by kernel_rfl⟩
theorem bo62 : BoI Tryz.prog 62 := ⟨by kernel_rfl⟩
theorem bo63 : BoI Tryz.prog 63 := ⟨by kernel_rfl⟩
theorem bo64 : BoI Tryz.prog 64 := ⟨by kernel_rfl⟩
theorem bo65 : BoI Tryz.prog 65 := ⟨by kernel_rfl⟩
theorem bo66 : BoI Tryz.prog 66 := ⟨by kernel_rfl⟩
theorem bo67 : BoI Tryz.prog 67 := ⟨by kernel_rfl⟩
theorem bo68 : BoI Tryz.prog 68 := ⟨by kernel_rfl⟩
theorem bo76 : BoI Tryz.prog 76 := ⟨by kernel_rfl⟩
theorem bo77 : BoI Tryz.prog 77 := ⟨by kernel_rfl⟩
theorem bo78 : BoI Tryz.prog 78 := ⟨by kernel_rfl⟩
theorem bo79 : BoI Tryz.prog 79 := ⟨by kernel_rfl⟩
theorem bo80 : BoI Tryz.prog 80 := ⟨by kernel_rfl⟩
theorem bo81 : BoI Tryz.prog 81 := ⟨by kernel_rfl⟩
theorem bo82 : BoI Tryz.prog 82 := ⟨by kernel_rfl⟩
theorem bo83 : BoI Tryz.prog 83 := ⟨by kernel_rfl⟩
theorem bo84 : BoI Tryz.prog 84 := ⟨by kernel_rfl⟩
theorem bo85 : BoI Tryz.prog 85 := ⟨by kernel_rfl⟩
theorem bo86 : BoI Tryz.prog 86 := ⟨by kernel_rfl⟩
theorem bo87 : BoI Tryz.prog 87 := ⟨by kernel_rfl⟩
theorem bo88 : BoI Tryz.prog 88 := ⟨by kernel_rfl⟩
theorem bo89 : BoI Tryz.prog 89 := ⟨by kernel_rfl⟩
theorem bo90 : BoI Tryz.prog 90 := ⟨by kernel_rfl⟩
theorem bo91 : BoI Tryz.prog 91 := ⟨by kernel_rfl⟩
theorem bo92 : BoI Tryz.prog 92 := ⟨by kernel_rfl⟩
theorem bo93 : BoI Tryz.prog 93 := ⟨by kernel_rfl⟩
theorem bo94 : BoI Tryz.prog 94 := ⟨by kernel_rfl⟩
theorem bo95 : BoI Tryz.prog 95 := ⟨by kernel_rfl⟩
theorem bo96 : BoI Tryz.prog 96 := ⟨by kernel_rfl⟩
theorem bo97 : BoI Tryz.prog 97 := ⟨by kernel_rfl⟩
theorem bo99 : BoI Tryz.prog 99 := ⟨by kernel_rfl⟩
theorem bo100 : BoI Tryz.prog 100 := ⟨by kernel_rfl⟩
theorem bo101 : BoI Tryz.prog 101 := ⟨by kernel_rfl⟩
theorem bo102 : BoI Tryz.prog 102 := ⟨by kernel_rfl⟩
theorem bo103 : BoI Tryz.prog 103 := ⟨by kernel_rfl⟩
theorem bo104 : BoI Tryz.prog 104 := ⟨by kernel_rfl⟩
theorem bo105 : BoI Tryz.prog 105 := ⟨by kernel_rfl⟩
theorem bo106 : BoI Tryz.prog 106 := ⟨by kernel_rfl⟩
theorem bo107 : BoI Tryz.prog 107 := ⟨by kernel_rfl⟩
theorem bo108 : BoI Tryz.prog 108 := ⟨by kernel_rfl⟩
theorem bo109 : BoI Tryz.prog 109 := ⟨by kernel_rfl⟩
theorem bo110 : BoI Tryz.prog 110 := ⟨by kernel_rfl⟩
theorem bo117 : BoI Tryz.prog 117 := ⟨by kernel_rfl⟩
theorem bo118 : BoI Tryz.prog 118 := ⟨by kernel_rfl⟩
theorem bo119 : BoI Tryz.prog 119 := ⟨by kernel_rfl⟩
theorem bo120 : BoI Tryz.prog 120 := ⟨by kernel_rfl⟩
theorem bo121 : BoI Tryz.prog 121 := ⟨by kernel_rfl⟩
theorem bo122 : BoI Tryz.prog 122 := ⟨by kernel_rfl⟩
theorem bo123 : BoI Tryz.prog 123 := ⟨by kernel_rfl⟩
theorem bo124 : BoI Tryz.prog 124 := ⟨by kernel_rfl⟩
theorem bo125 : BoI Tryz.prog 125 := ⟨by kernel_rfl⟩
theorem bo126 : BoI Tryz.prog 126 := ⟨by kernel_rfl⟩
theorem bo127 : BoI Tryz.prog 127 := ⟨by kernel_rfl⟩
theorem bo128 : BoI Tryz.prog 128 := ⟨by kernel_rfl⟩
theorem bo129 : BoI Tryz.prog 129 := ⟨by kernel_rfl⟩
theorem bo130 : BoI Tryz.prog 130 := ⟨by kernel_rfl⟩
theorem bo131 : BoI Tryz.prog 131 := ⟨by kernel_rfl⟩
theorem bo132 : BoI Tryz.prog 132 := ⟨by kernel_rfl⟩
theorem bo133 : BoI Tryz.prog 133 := ⟨by kernel_rfl⟩
theorem bo134 : BoI Tryz.prog 134 := ⟨by kernel_rfl⟩
theorem bo137 : BoI Tryz.prog 137 := ⟨by kernel_rfl⟩
theorem bo138 : BoI Tryz.prog 138 := ⟨by kernel_rfl⟩
theorem bo139 : BoI Tryz.prog 139 := ⟨by kernel_rfl⟩
theorem bo140 : BoI Tryz.prog 140 := ⟨by kernel_rfl⟩
theorem bo141 : BoI Tryz.prog 141 := ⟨by kernel_rfl⟩
theorem bo142 : BoI Tryz.prog 142 := ⟨by kernel_rfl⟩
theorem bo144 : BoI Tryz.prog 144 := ⟨by kernel_rfl⟩
theorem bo145 : BoI Tryz.prog 145 := ⟨by kernel_rfl⟩
theorem bo146 : BoI Tryz.prog 146 := ⟨by kernel_rfl⟩
theorem bo149 : BoI Tryz.prog 149 := ⟨by kernel_rfl⟩
theorem bo150 : BoI Tryz.prog 150 := ⟨by kernel_rfl⟩
theorem bo151 : BoI Tryz.prog 151 := ⟨by kernel_rfl⟩
theorem bo152 : BoI Tryz.prog 152 := ⟨by kernel_rfl⟩
theorem bo153 : BoI Tryz.prog 153 := ⟨by kernel_rfl⟩
theorem bo154 : BoI Tryz.prog 154 := ⟨by kernel_rfl⟩
theorem bo155 : BoI Tryz.prog 155 := ⟨by kernel_rfl⟩
theorem bo156 : BoI Tryz.prog 156 := ⟨by kernel_rfl⟩
theorem bo157 : BoI Tryz.prog 157 := ⟨by kernel_rfl⟩
theorem bo158 : BoI Tryz.prog 158 := ⟨by kernel_rfl⟩
theorem bo159 : BoI Tryz.prog 159 := ⟨by kernel_rfl⟩
theorem bo162 : BoI Tryz.prog 162 := ⟨by kernel_rfl⟩
theorem bo163 : BoI Tryz.prog 163 := ⟨by kernel_rfl⟩
theorem bo164 : BoI Tryz.prog 164 := ⟨by kernel_rfl⟩
theorem bo165 : BoI Tryz.prog 165 := ⟨by kernel_rfl⟩
theorem bo166 : BoI Tryz.prog 166 := ⟨by kernel_rfl⟩
theorem bo170 : BoI Tryz.prog 170 := ⟨by kernel_rfl⟩
theorem bo171 : BoI Tryz.prog 171 := ⟨by kernel_rfl⟩
theorem bo172 : BoI Tryz.prog 172 := ⟨by kernel_rfl⟩
theorem bo173 : BoI Tryz.prog 173 := ⟨by kernel_rfl⟩
theorem bo174 : BoI Tryz.prog 174 := ⟨by kernel_rfl⟩
theorem bo175 : BoI Tryz.prog 175 := ⟨by kernel_rfl⟩
theorem bo178 : BoI Tryz.prog 178 := ⟨by kernel_rfl⟩
theorem bo179 : BoI Tryz.prog 179 := ⟨by kernel_rfl⟩
theorem bo180 : BoI Tryz.prog 180 := ⟨by kernel_rfl⟩
theorem bo182 : BoI Tryz.prog 182 := ⟨by kernel_rfl⟩
theorem ef28 : EfI Tryz.prog 28 50 4 40 [.d (.v (.int .i64 0)), .d (.v (.int .i64 0)), .d (.v (.int .i64 0)), .d (.v (.string ByteArray.empty))] := ⟨by kernel_rfl⟩
theorem ef29 : EfI Tryz.prog 29 3 1 8 [.d (.v (.int .i64 0))] := ⟨by kernel_rfl⟩
theorem ef30 : EfI Tryz.prog 30 147 6 80 [.d (.v (.int .i64 0)), .d (.v (.int .i64 0)), .d (.v (.int .i64 0)), .d (.v (.bool false)), .zero, .zero] := ⟨by kernel_rfl⟩
theorem ef33 : EfI Tryz.prog 33 78 3 24 [.d (.v (.int .i64 0)), .d (.v (.int .i64 0)), .d (.v (.int .i64 0))] := ⟨by kernel_rfl⟩
theorem ef34 : EfI Tryz.prog 34 44 9 136 [.zero, .d (.v (.int .i64 0)), .d (.v (.int .i64 0)), .d (.v (.int .i64 0)), .d (.v (.int .i64 0)), .d (.v (.int .i64 0)), .zero, .zero, .zero] := ⟨by kernel_rfl⟩
theorem ef40 : EfI Tryz.prog 40 162 1 1 [.d (.v (.int .u8 0))] := ⟨by kernel_rfl⟩
theorem ef60 : EfI Tryz.prog 60 76 10 88 [.d (.v (.int .i64 0)), .d (.v (.int .i64 0)), .d (.v (.int .i64 0)), .d (.v (.int .i64 0)), .d (.v (.string ByteArray.empty)), .d (.v (.int .i64 0)), .d (.v (.int .i64 0)), .d (.v (.int .i64 0)), .d (.v (.int .i64 0)), .d (.v (.int .i64 0))] := ⟨by kernel_rfl⟩
theorem ef94 : EfI Tryz.prog 94 64 7 56 [.d (.v (.int .i64 0)), .d (.v (.int .i64 0)), .d (.v (.int .i64 0)), .d (.v (.int .i64 0)), .d (.v (.int .i64 0)), .d (.v (.bool false)), .d (.v (.int .i64 0))] := ⟨by kernel_rfl⟩
theorem ef112 : EfI Tryz.prog 112 42 3 72 [.zero, .zero, .zero] := ⟨by kernel_rfl⟩
theorem ef145 : EfI Tryz.prog 145 166 1 24 [.zero] := ⟨by kernel_rfl⟩
theorem ef151 : EfI Tryz.prog 151 193 7 104 [.zero, .zero, .zero, .d (.v (.int .i64 0)), .d (.v (.int .i64 0)), .d (.v (.int .i64 0)), .d (.v (.int .i64 0))] := ⟨by kernel_rfl⟩
theorem ef166 : EfI Tryz.prog 166 4 1 1 [.d (.v (.bool false))] := ⟨by kernel_rfl⟩
theorem ef213 : EfI Tryz.prog 213 176 3 24 [.d (.v (.int .i64 0)), .d (.v (.int .i64 0)), .d (.v (.int .i64 0))] := ⟨by kernel_rfl⟩
theorem el22 : ElI Tryz.prog 22 1 := ⟨by kernel_rfl⟩
theorem el23 : ElI Tryz.prog 23 6 := ⟨by kernel_rfl⟩
theorem el28 : ElI Tryz.prog 28 4 := ⟨by kernel_rfl⟩
theorem el29 : ElI Tryz.prog 29 1 := ⟨by kernel_rfl⟩
theorem el30 : ElI Tryz.prog 30 6 := ⟨by kernel_rfl⟩
theorem el33 : ElI Tryz.prog 33 3 := ⟨by kernel_rfl⟩
theorem el34 : ElI Tryz.prog 34 9 := ⟨by kernel_rfl⟩
theorem el40 : ElI Tryz.prog 40 1 := ⟨by kernel_rfl⟩
theorem el60 : ElI Tryz.prog 60 10 := ⟨by kernel_rfl⟩
theorem el94 : ElI Tryz.prog 94 7 := ⟨by kernel_rfl⟩
theorem el112 : ElI Tryz.prog 112 3 := ⟨by kernel_rfl⟩
theorem el145 : ElI Tryz.prog 145 1 := ⟨by kernel_rfl⟩
theorem el151 : ElI Tryz.prog 151 7 := ⟨by kernel_rfl⟩
theorem el166 : ElI Tryz.prog 166 1 := ⟨by kernel_rfl⟩
theorem el213 : ElI Tryz.prog 213 3 := ⟨by kernel_rfl⟩
theorem fd25_0 : FdI Tryz.prog 25 0 0 none := ⟨by kernel_rfl⟩
theorem fd25_1 : FdI Tryz.prog 25 1 1 none := ⟨by kernel_rfl⟩
theorem fd25_2 : FdI Tryz.prog 25 2 2 none := ⟨by kernel_rfl⟩
theorem fd25_3 : FdI Tryz.prog 25 3 3 none := ⟨by kernel_rfl⟩
theorem fd27_0 : FdI Tryz.prog 27 0 0 (some 4) := ⟨by kernel_rfl⟩
theorem fd27_1 : FdI Tryz.prog 27 1 4 none := ⟨by kernel_rfl⟩
theorem fd27_2 : FdI Tryz.prog 27 2 5 none := ⟨by kernel_rfl⟩
theorem fd32_0 : FdI Tryz.prog 32 0 0 none := ⟨by kernel_rfl⟩
theorem fd32_1 : FdI Tryz.prog 32 1 1 none := ⟨by kernel_rfl⟩
theorem fd32_2 : FdI Tryz.prog 32 2 2 none := ⟨by kernel_rfl⟩
theorem fd32_3 : FdI Tryz.prog 32 3 3 none := ⟨by kernel_rfl⟩
theorem fd36_0 : FdI Tryz.prog 36 0 0 (some 4) := ⟨by kernel_rfl⟩
theorem fd36_1 : FdI Tryz.prog 36 1 4 none := ⟨by kernel_rfl⟩
theorem fd36_2 : FdI Tryz.prog 36 2 5 none := ⟨by kernel_rfl⟩
theorem fd36_3 : FdI Tryz.prog 36 3 6 none := ⟨by kernel_rfl⟩
theorem fd36_4 : FdI Tryz.prog 36 4 7 none := ⟨by kernel_rfl⟩
theorem fd36_5 : FdI Tryz.prog 36 5 8 none := ⟨by kernel_rfl⟩
theorem fd42_0 : FdI Tryz.prog 42 0 0 none := ⟨by kernel_rfl⟩
theorem fd42_1 : FdI Tryz.prog 42 1 1 none := ⟨by kernel_rfl⟩
theorem fd42_2 : FdI Tryz.prog 42 2 2 none := ⟨by kernel_rfl⟩
theorem fd44_0 : FdI Tryz.prog 44 0 0 none := ⟨by kernel_rfl⟩
theorem fd44_1 : FdI Tryz.prog 44 1 1 none := ⟨by kernel_rfl⟩
theorem fd44_2 : FdI Tryz.prog 44 2 2 none := ⟨by kernel_rfl⟩
theorem fd44_3 : FdI Tryz.prog 44 3 3 none := ⟨by kernel_rfl⟩
theorem fd44_4 : FdI Tryz.prog 44 4 4 none := ⟨by kernel_rfl⟩
theorem fd44_5 : FdI Tryz.prog 44 5 5 none := ⟨by kernel_rfl⟩
theorem fd44_6 : FdI Tryz.prog 44 6 6 (some 3) := ⟨by kernel_rfl⟩
theorem fd50_0 : FdI Tryz.prog 50 0 0 none := ⟨by kernel_rfl⟩
theorem fd50_2 : FdI Tryz.prog 50 2 2 none := ⟨by kernel_rfl⟩
theorem fd64_0 : FdI Tryz.prog 64 0 0 none := ⟨by kernel_rfl⟩
theorem fd64_1 : FdI Tryz.prog 64 1 1 none := ⟨by kernel_rfl⟩
theorem fd64_2 : FdI Tryz.prog 64 2 2 none := ⟨by kernel_rfl⟩
theorem fd64_3 : FdI Tryz.prog 64 3 3 none := ⟨by kernel_rfl⟩
theorem fd64_4 : FdI Tryz.prog 64 4 4 none := ⟨by kernel_rfl⟩
theorem fd64_5 : FdI Tryz.prog 64 5 5 none := ⟨by kernel_rfl⟩
theorem fd64_6 : FdI Tryz.prog 64 6 6 none := ⟨by kernel_rfl⟩
theorem fd76_0 : FdI Tryz.prog 76 0 0 none := ⟨by kernel_rfl⟩
theorem fd76_1 : FdI Tryz.prog 76 1 1 (some 4) := ⟨by kernel_rfl⟩
theorem fd78_0 : FdI Tryz.prog 78 0 0 none := ⟨by kernel_rfl⟩
theorem fd78_1 : FdI Tryz.prog 78 1 1 none := ⟨by kernel_rfl⟩
theorem fd78_2 : FdI Tryz.prog 78 2 2 none := ⟨by kernel_rfl⟩
theorem fd83_0 : FdI Tryz.prog 83 0 0 (some 4) := ⟨by kernel_rfl⟩
theorem fd83_1 : FdI Tryz.prog 83 1 4 none := ⟨by kernel_rfl⟩
theorem fd83_2 : FdI Tryz.prog 83 2 5 (some 9) := ⟨by kernel_rfl⟩
theorem fd114_0 : FdI Tryz.prog 114 0 0 (some 4) := ⟨by kernel_rfl⟩
theorem fd114_1 : FdI Tryz.prog 114 1 4 none := ⟨by kernel_rfl⟩
theorem fd114_2 : FdI Tryz.prog 114 2 5 none := ⟨by kernel_rfl⟩
theorem fd140_0 : FdI Tryz.prog 140 0 0 (some 4) := ⟨by kernel_rfl⟩
theorem fd140_1 : FdI Tryz.prog 140 1 4 none := ⟨by kernel_rfl⟩
theorem fd140_2 : FdI Tryz.prog 140 2 5 (some 9) := ⟨by kernel_rfl⟩
theorem fd140_3 : FdI Tryz.prog 140 3 14 none := ⟨by kernel_rfl⟩
theorem fd144_0 : FdI Tryz.prog 144 0 0 none := ⟨by kernel_rfl⟩
theorem fd144_1 : FdI Tryz.prog 144 1 1 none := ⟨by kernel_rfl⟩
theorem fd144_2 : FdI Tryz.prog 144 2 2 none := ⟨by kernel_rfl⟩
theorem fd144_3 : FdI Tryz.prog 144 3 3 none := ⟨by kernel_rfl⟩
theorem fd144_4 : FdI Tryz.prog 144 4 4 none := ⟨by kernel_rfl⟩
theorem fd144_5 : FdI Tryz.prog 144 5 5 none := ⟨by kernel_rfl⟩
theorem fd147_0 : FdI Tryz.prog 147 0 0 none := ⟨by kernel_rfl⟩
theorem fd147_1 : FdI Tryz.prog 147 1 1 none := ⟨by kernel_rfl⟩
theorem fd147_2 : FdI Tryz.prog 147 2 2 none := ⟨by kernel_rfl⟩
theorem fd147_3 : FdI Tryz.prog 147 3 3 none := ⟨by kernel_rfl⟩
theorem fd147_4 : FdI Tryz.prog 147 4 4 none := ⟨by kernel_rfl⟩
theorem fd147_5 : FdI Tryz.prog 147 5 5 none := ⟨by kernel_rfl⟩
theorem fd193_0 : FdI Tryz.prog 193 0 0 (some 3) := ⟨by kernel_rfl⟩
theorem fd193_1 : FdI Tryz.prog 193 1 3 none := ⟨by kernel_rfl⟩
theorem fd193_2 : FdI Tryz.prog 193 2 4 (some 3) := ⟨by kernel_rfl⟩
theorem ib4 : IbI Tryz.prog 4 := ⟨by kernel_rfl⟩
theorem ik2 : IkI Tryz.prog 2 .i64 := ⟨by kernel_rfl⟩
theorem ik3 : IkI Tryz.prog 3 .i64 := ⟨by kernel_rfl⟩
theorem ik5 : IkI Tryz.prog 5 .u8 := ⟨by kernel_rfl⟩
theorem ik162 : IkI Tryz.prog 162 .u8 := ⟨by kernel_rfl⟩
theorem is28 : IsI Tryz.prog 28 := ⟨by kernel_rfl⟩
theorem is29 : IsI Tryz.prog 29 := ⟨by kernel_rfl⟩
theorem is30 : IsI Tryz.prog 30 := ⟨by kernel_rfl⟩
theorem is33 : IsI Tryz.prog 33 := ⟨by kernel_rfl⟩
theorem is34 : IsI Tryz.prog 34 := ⟨by kernel_rfl⟩
theorem is40 : IsI Tryz.prog 40 := ⟨by kernel_rfl⟩
theorem is60 : IsI Tryz.prog 60 := ⟨by kernel_rfl⟩
theorem is112 : IsI Tryz.prog 112 := ⟨by kernel_rfl⟩
theorem is145 : IsI Tryz.prog 145 := ⟨by kernel_rfl⟩
theorem is151 : IsI Tryz.prog 151 := ⟨by kernel_rfl⟩
theorem is166 : IsI Tryz.prog 166 := ⟨by kernel_rfl⟩
theorem is213 : IsI Tryz.prog 213 := ⟨by kernel_rfl⟩
theorem ld2 : LdI Tryz.prog 2 none := ⟨by kernel_rfl⟩
theorem ld3 : LdI Tryz.prog 3 none := ⟨by kernel_rfl⟩
theorem ld4 : LdI Tryz.prog 4 none := ⟨by kernel_rfl⟩
theorem ld5 : LdI Tryz.prog 5 none := ⟨by kernel_rfl⟩
theorem ld22 : LdI Tryz.prog 22 none := ⟨by kernel_rfl⟩
theorem ld23 : LdI Tryz.prog 23 none := ⟨by kernel_rfl⟩
theorem ld25 : LdI Tryz.prog 25 (some 4) := ⟨by kernel_rfl⟩
theorem ld27 : LdI Tryz.prog 27 (some 6) := ⟨by kernel_rfl⟩
theorem ld28 : LdI Tryz.prog 28 none := ⟨by kernel_rfl⟩
theorem ld29 : LdI Tryz.prog 29 none := ⟨by kernel_rfl⟩
theorem ld30 : LdI Tryz.prog 30 none := ⟨by kernel_rfl⟩
theorem ld32 : LdI Tryz.prog 32 (some 4) := ⟨by kernel_rfl⟩
theorem ld33 : LdI Tryz.prog 33 none := ⟨by kernel_rfl⟩
theorem ld34 : LdI Tryz.prog 34 none := ⟨by kernel_rfl⟩
theorem ld36 : LdI Tryz.prog 36 (some 9) := ⟨by kernel_rfl⟩
theorem ld40 : LdI Tryz.prog 40 none := ⟨by kernel_rfl⟩
theorem ld42 : LdI Tryz.prog 42 (some 3) := ⟨by kernel_rfl⟩
theorem ld44 : LdI Tryz.prog 44 (some 9) := ⟨by kernel_rfl⟩
theorem ld50 : LdI Tryz.prog 50 (some 4) := ⟨by kernel_rfl⟩
theorem ld54 : LdI Tryz.prog 54 none := ⟨by kernel_rfl⟩
theorem ld60 : LdI Tryz.prog 60 none := ⟨by kernel_rfl⟩
theorem ld64 : LdI Tryz.prog 64 (some 7) := ⟨by kernel_rfl⟩
theorem ld74 : LdI Tryz.prog 74 (some 3) := ⟨by kernel_rfl⟩
theorem ld76 : LdI Tryz.prog 76 (some 10) := ⟨by kernel_rfl⟩
theorem ld78 : LdI Tryz.prog 78 (some 3) := ⟨by kernel_rfl⟩
theorem ld112 : LdI Tryz.prog 112 none := ⟨by kernel_rfl⟩
theorem ld114 : LdI Tryz.prog 114 (some 6) := ⟨by kernel_rfl⟩
theorem ld144 : LdI Tryz.prog 144 (some 6) := ⟨by kernel_rfl⟩
theorem ld145 : LdI Tryz.prog 145 none := ⟨by kernel_rfl⟩
theorem ld147 : LdI Tryz.prog 147 (some 6) := ⟨by kernel_rfl⟩
theorem ld162 : LdI Tryz.prog 162 none := ⟨by kernel_rfl⟩
theorem ld166 : LdI Tryz.prog 166 none := ⟨by kernel_rfl⟩
theorem ld176 : LdI Tryz.prog 176 (some 3) := ⟨by kernel_rfl⟩
theorem ns162 : NsI Tryz.prog 162 := ⟨by kernel_rfl⟩
theorem pl27 : PlI Tryz.prog 27 [.zero, .zero, .zero, .zero, .zero, .zero] [(0, 4), (4, 1), (5, 1)] := ⟨by kernel_rfl⟩
theorem pl32 : PlI Tryz.prog 32 [.zero, .zero, .zero, .zero] [(0, 1), (1, 1), (2, 1), (3, 1)] := ⟨by kernel_rfl⟩
theorem pl36 : PlI Tryz.prog 36 [.zero, .zero, .zero, .zero, .zero, .zero, .zero, .zero, .zero] [(0, 4), (4, 1), (5, 1), (6, 1), (7, 1), (8, 1)] := ⟨by kernel_rfl⟩
theorem pl42 : PlI Tryz.prog 42 [.zero, .zero, .zero] [(0, 1), (1, 1), (2, 1)] := ⟨by kernel_rfl⟩
theorem pl44 : PlI Tryz.prog 44 [.zero, .d (.v (.int .i64 0)), .d (.v (.int .i64 0)), .d (.v (.int .i64 0)), .d (.v (.int .i64 0)), .d (.v (.int .i64 0)), .zero, .zero, .zero] [(0, 1), (1, 1), (2, 1), (3, 1), (4, 1), (5, 1), (6, 3)] := ⟨by kernel_rfl⟩
theorem pl50 : PlI Tryz.prog 50 [.d (.v (.int .i64 0)), .d (.v (.int .i64 0)), .d (.v (.int .i64 0)), .d (.v (.string ByteArray.empty))] [(0, 1), (1, 1), (2, 1), (3, 1)] := ⟨by kernel_rfl⟩
theorem pl64 : PlI Tryz.prog 64 [.d (.v (.int .i64 0)), .d (.v (.int .i64 0)), .d (.v (.int .i64 0)), .d (.v (.int .i64 0)), .d (.v (.int .i64 0)), .d (.v (.bool false)), .d (.v (.int .i64 0))] [(0, 1), (1, 1), (2, 1), (3, 1), (4, 1), (5, 1), (6, 1)] := ⟨by kernel_rfl⟩
theorem pl74 : PlI Tryz.prog 74 [.d (.v (.int .i64 0)), .d (.v (.int .i64 0)), .d (.v (.int .i64 0))] [(0, 1), (1, 1), (2, 1)] := ⟨by kernel_rfl⟩
theorem pl76 : PlI Tryz.prog 76 [.d (.v (.int .i64 0)), .d (.v (.int .i64 0)), .d (.v (.int .i64 0)), .d (.v (.int .i64 0)), .d (.v (.string ByteArray.empty)), .d (.v (.int .i64 0)), .d (.v (.int .i64 0)), .d (.v (.int .i64 0)), .d (.v (.int .i64 0)), .d (.v (.int .i64 0))] [(0, 1), (1, 4), (5, 3), (8, 1), (9, 1)] := ⟨by kernel_rfl⟩
theorem pl78 : PlI Tryz.prog 78 [.d (.v (.int .i64 0)), .d (.v (.int .i64 0)), .d (.v (.int .i64 0))] [(0, 1), (1, 1), (2, 1)] := ⟨by kernel_rfl⟩
theorem pl83 : PlI Tryz.prog 83 [.zero, .zero, .zero, .zero, .zero, .zero, .d (.v (.int .i64 0)), .d (.v (.int .i64 0)), .d (.v (.int .i64 0)), .d (.v (.int .i64 0)), .d (.v (.int .i64 0)), .zero, .zero, .zero] [(0, 4), (4, 1), (5, 9)] := ⟨by kernel_rfl⟩
theorem pl114 : PlI Tryz.prog 114 [.zero, .zero, .zero, .zero, .zero, .zero] [(0, 4), (4, 1), (5, 1)] := ⟨by kernel_rfl⟩
theorem pl140 : PlI Tryz.prog 140 [.zero, .zero, .zero, .zero, .zero, .zero, .d (.v (.int .i64 0)), .d (.v (.int .i64 0)), .d (.v (.int .i64 0)), .d (.v (.int .i64 0)), .d (.v (.int .i64 0)), .zero, .zero, .zero, .zero] [(0, 4), (4, 1), (5, 9), (14, 1)] := ⟨by kernel_rfl⟩
theorem pl147 : PlI Tryz.prog 147 [.d (.v (.int .i64 0)), .d (.v (.int .i64 0)), .d (.v (.int .i64 0)), .d (.v (.bool false)), .zero, .zero] [(0, 1), (1, 1), (2, 1), (3, 1), (4, 1), (5, 1)] := ⟨by kernel_rfl⟩
theorem pl176 : PlI Tryz.prog 176 [.d (.v (.int .i64 0)), .d (.v (.int .i64 0)), .d (.v (.int .i64 0))] [(0, 1), (1, 1), (2, 1)] := ⟨by kernel_rfl⟩
theorem pl193 : PlI Tryz.prog 193 [.zero, .zero, .zero, .d (.v (.int .i64 0)), .d (.v (.int .i64 0)), .d (.v (.int .i64 0)), .d (.v (.int .i64 0))] [(0, 3), (3, 1), (4, 3)] := ⟨by kernel_rfl⟩
theorem sz2 : SzI Tryz.prog 2 1 := ⟨by kernel_rfl⟩
theorem sz3 : SzI Tryz.prog 3 1 := ⟨by kernel_rfl⟩
theorem sz4 : SzI Tryz.prog 4 1 := ⟨by kernel_rfl⟩
theorem sz28 : SzI Tryz.prog 28 1 := ⟨by kernel_rfl⟩
theorem sz29 : SzI Tryz.prog 29 1 := ⟨by kernel_rfl⟩
theorem sz30 : SzI Tryz.prog 30 1 := ⟨by kernel_rfl⟩
theorem sz32 : SzI Tryz.prog 32 4 := ⟨by kernel_rfl⟩
theorem sz33 : SzI Tryz.prog 33 1 := ⟨by kernel_rfl⟩
theorem sz34 : SzI Tryz.prog 34 1 := ⟨by kernel_rfl⟩
theorem sz36 : SzI Tryz.prog 36 9 := ⟨by kernel_rfl⟩
theorem sz40 : SzI Tryz.prog 40 1 := ⟨by kernel_rfl⟩
theorem sz42 : SzI Tryz.prog 42 3 := ⟨by kernel_rfl⟩
theorem sz44 : SzI Tryz.prog 44 9 := ⟨by kernel_rfl⟩
theorem sz50 : SzI Tryz.prog 50 4 := ⟨by kernel_rfl⟩
theorem sz60 : SzI Tryz.prog 60 1 := ⟨by kernel_rfl⟩
theorem sz64 : SzI Tryz.prog 64 7 := ⟨by kernel_rfl⟩
theorem sz74 : SzI Tryz.prog 74 3 := ⟨by kernel_rfl⟩
theorem sz76 : SzI Tryz.prog 76 10 := ⟨by kernel_rfl⟩
theorem sz78 : SzI Tryz.prog 78 3 := ⟨by kernel_rfl⟩
theorem sz114 : SzI Tryz.prog 114 6 := ⟨by kernel_rfl⟩
theorem sz144 : SzI Tryz.prog 144 6 := ⟨by kernel_rfl⟩
theorem sz145 : SzI Tryz.prog 145 1 := ⟨by kernel_rfl⟩
theorem sz147 : SzI Tryz.prog 147 6 := ⟨by kernel_rfl⟩
theorem sz162 : SzI Tryz.prog 162 1 := ⟨by kernel_rfl⟩
theorem sz176 : SzI Tryz.prog 176 3 := ⟨by kernel_rfl⟩
theorem zr32 : ZrI Tryz.prog 32 [.zero, .zero, .zero, .zero] := ⟨by kernel_rfl⟩
theorem zr36 : ZrI Tryz.prog 36 [.zero, .zero, .zero, .zero, .zero, .zero, .zero, .zero, .zero] := ⟨by kernel_rfl⟩
theorem zr42 : ZrI Tryz.prog 42 [.zero, .zero, .zero] := ⟨by kernel_rfl⟩
theorem zr44 : ZrI Tryz.prog 44 [.zero, .d (.v (.int .i64 0)), .d (.v (.int .i64 0)), .d (.v (.int .i64 0)), .d (.v (.int .i64 0)), .d (.v (.int .i64 0)), .zero, .zero, .zero] := ⟨by kernel_rfl⟩
theorem zr50 : ZrI Tryz.prog 50 [.d (.v (.int .i64 0)), .d (.v (.int .i64 0)), .d (.v (.int .i64 0)), .d (.v (.string ByteArray.empty))] := ⟨by kernel_rfl⟩
theorem zr64 : ZrI Tryz.prog 64 [.d (.v (.int .i64 0)), .d (.v (.int .i64 0)), .d (.v (.int .i64 0)), .d (.v (.int .i64 0)), .d (.v (.int .i64 0)), .d (.v (.bool false)), .d (.v (.int .i64 0))] := ⟨by kernel_rfl⟩
theorem zr74 : ZrI Tryz.prog 74 [.d (.v (.int .i64 0)), .d (.v (.int .i64 0)), .d (.v (.int .i64 0))] := ⟨by kernel_rfl⟩
theorem zr76 : ZrI Tryz.prog 76 [.d (.v (.int .i64 0)), .d (.v (.int .i64 0)), .d (.v (.int .i64 0)), .d (.v (.int .i64 0)), .d (.v (.string ByteArray.empty)), .d (.v (.int .i64 0)), .d (.v (.int .i64 0)), .d (.v (.int .i64 0)), .d (.v (.int .i64 0)), .d (.v (.int .i64 0))] := ⟨by kernel_rfl⟩
theorem zr78 : ZrI Tryz.prog 78 [.d (.v (.int .i64 0)), .d (.v (.int .i64 0)), .d (.v (.int .i64 0))] := ⟨by kernel_rfl⟩
theorem zr114 : ZrI Tryz.prog 114 [.zero, .zero, .zero, .zero, .zero, .zero] := ⟨by kernel_rfl⟩
theorem zr144 : ZrI Tryz.prog 144 [.d (.v (.int .u8 0)), .d (.v (.int .u8 0)), .d (.v (.int .u8 0)), .d (.v (.bool false)), .d (.v (.int .u16 0)), .d (.v (.int .u16 0))] := ⟨by kernel_rfl⟩
theorem zr147 : ZrI Tryz.prog 147 [.d (.v (.int .i64 0)), .d (.v (.int .i64 0)), .d (.v (.int .i64 0)), .d (.v (.bool false)), .zero, .zero] := ⟨by kernel_rfl⟩
theorem zr176 : ZrI Tryz.prog 176 [.d (.v (.int .i64 0)), .d (.v (.int .i64 0)), .d (.v (.int .i64 0))] := ⟨by kernel_rfl⟩
end Go.Proofs.YtbdjcgjdmhgnmaaGreat

