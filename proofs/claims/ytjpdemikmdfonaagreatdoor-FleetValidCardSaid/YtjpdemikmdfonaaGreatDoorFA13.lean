/- Rules of runs and contracts of functions, for the claims of one seat. -/
import Derived.Test.YtjpdemikmdfonaaGreatDoorFA11
import Derived.Test.YtjpdemikmdfonaaGreatDoorFA12
namespace Go.Proofs.YtjpdemikmdfonaaGreatDoor
open Go Go.RowKit
set_option linter.unusedSimpArgs false
def nilSy : SymD := ⟨0, ByteArray.empty⟩
def nilRa : RawD := ⟨0, ByteArray.empty⟩
def nilMs : MsgD := ⟨0, ByteArray.empty, 0⟩
def nilEd : EdgeD := ⟨0, false, 0, 0⟩
def nilAu : AutD := ⟨0, 0, []⟩
def nilSe : SesD := ⟨ByteArray.empty, [], nilAu⟩
def nilCa : CallD := ⟨ByteArray.empty, 0, 0⟩
def nilTo : TopD := ⟨ByteArray.empty, 0⟩
theorem gSyms {xs : List (SymD)} {n : Int} (h : 0 ≤ n ∧ n < xs.length) : 0 ≤ n ∧ (dSyms xs)[n.toNat]? = some (symRow (xs.getD n.toNat nilSy)) := rowsG nilSy h
theorem gSymsN {xs : List (SymD)} {k : Nat} (h : k < xs.length) : 0 ≤ (k : Int) ∧ (dSyms xs)[(k : Int).toNat]? = some (symRow (xs.getD k nilSy)) := ⟨Int.natCast_nonneg k, rowsN nilSy h⟩
theorem zSyms {xs : List (SymD)} {n : Int} (h : 0 ≤ n ∧ n < xs.length) : (dSyms xs)[n.toNat]? = some (symRow (xs.getD n.toNat nilSy)) := rowsZ nilSy h
theorem lSyms {xs : List (SymD)} : (dSyms xs).length = xs.length := List.length_map _
theorem wSyms {xs : List (SymD)} {j : Nat} {x : SymD} : (dSyms xs).set j (symRow x) = dSyms (xs.set j x) := List.map_set.symm
theorem gRaws {xs : List (RawD)} {n : Int} (h : 0 ≤ n ∧ n < xs.length) : 0 ≤ n ∧ (dRaws xs)[n.toNat]? = some (rawRow (xs.getD n.toNat nilRa)) := rowsG nilRa h
theorem gRawsN {xs : List (RawD)} {k : Nat} (h : k < xs.length) : 0 ≤ (k : Int) ∧ (dRaws xs)[(k : Int).toNat]? = some (rawRow (xs.getD k nilRa)) := ⟨Int.natCast_nonneg k, rowsN nilRa h⟩
theorem zRaws {xs : List (RawD)} {n : Int} (h : 0 ≤ n ∧ n < xs.length) : (dRaws xs)[n.toNat]? = some (rawRow (xs.getD n.toNat nilRa)) := rowsZ nilRa h
theorem lRaws {xs : List (RawD)} : (dRaws xs).length = xs.length := List.length_map _
theorem wRaws {xs : List (RawD)} {j : Nat} {x : RawD} : (dRaws xs).set j (rawRow x) = dRaws (xs.set j x) := List.map_set.symm
theorem gMems {xs : List (MemD)} {n : Int} (h : 0 ≤ n ∧ n < xs.length) : 0 ≤ n ∧ (dMems xs)[n.toNat]? = some (memRow (xs.getD n.toNat nilM0)) := rowsG nilM0 h
theorem gMemsN {xs : List (MemD)} {k : Nat} (h : k < xs.length) : 0 ≤ (k : Int) ∧ (dMems xs)[(k : Int).toNat]? = some (memRow (xs.getD k nilM0)) := ⟨Int.natCast_nonneg k, rowsN nilM0 h⟩
theorem zMems {xs : List (MemD)} {n : Int} (h : 0 ≤ n ∧ n < xs.length) : (dMems xs)[n.toNat]? = some (memRow (xs.getD n.toNat nilM0)) := rowsZ nilM0 h
theorem lMems {xs : List (MemD)} : (dMems xs).length = xs.length := List.length_map _
theorem wMems {xs : List (MemD)} {j : Nat} {x : MemD} : (dMems xs).set j (memRow x) = dMems (xs.set j x) := List.map_set.symm
theorem gTyps {xs : List (TypD)} {n : Int} (h : 0 ≤ n ∧ n < xs.length) : 0 ≤ n ∧ (dTyps xs)[n.toNat]? = some (typRow (xs.getD n.toNat nilT0)) := rowsG nilT0 h
theorem gTypsN {xs : List (TypD)} {k : Nat} (h : k < xs.length) : 0 ≤ (k : Int) ∧ (dTyps xs)[(k : Int).toNat]? = some (typRow (xs.getD k nilT0)) := ⟨Int.natCast_nonneg k, rowsN nilT0 h⟩
theorem zTyps {xs : List (TypD)} {n : Int} (h : 0 ≤ n ∧ n < xs.length) : (dTyps xs)[n.toNat]? = some (typRow (xs.getD n.toNat nilT0)) := rowsZ nilT0 h
theorem lTyps {xs : List (TypD)} : (dTyps xs).length = xs.length := List.length_map _
theorem wTyps {xs : List (TypD)} {j : Nat} {x : TypD} : (dTyps xs).set j (typRow x) = dTyps (xs.set j x) := List.map_set.symm
theorem gMsgs {xs : List (MsgD)} {n : Int} (h : 0 ≤ n ∧ n < xs.length) : 0 ≤ n ∧ (dMsgs xs)[n.toNat]? = some (msgRow (xs.getD n.toNat nilMs)) := rowsG nilMs h
theorem gMsgsN {xs : List (MsgD)} {k : Nat} (h : k < xs.length) : 0 ≤ (k : Int) ∧ (dMsgs xs)[(k : Int).toNat]? = some (msgRow (xs.getD k nilMs)) := ⟨Int.natCast_nonneg k, rowsN nilMs h⟩
theorem zMsgs {xs : List (MsgD)} {n : Int} (h : 0 ≤ n ∧ n < xs.length) : (dMsgs xs)[n.toNat]? = some (msgRow (xs.getD n.toNat nilMs)) := rowsZ nilMs h
theorem lMsgs {xs : List (MsgD)} : (dMsgs xs).length = xs.length := List.length_map _
theorem wMsgs {xs : List (MsgD)} {j : Nat} {x : MsgD} : (dMsgs xs).set j (msgRow x) = dMsgs (xs.set j x) := List.map_set.symm
theorem gEdges {xs : List (EdgeD)} {n : Int} (h : 0 ≤ n ∧ n < xs.length) : 0 ≤ n ∧ (dEdges xs)[n.toNat]? = some (edgeRow (xs.getD n.toNat nilEd)) := rowsG nilEd h
theorem gEdgesN {xs : List (EdgeD)} {k : Nat} (h : k < xs.length) : 0 ≤ (k : Int) ∧ (dEdges xs)[(k : Int).toNat]? = some (edgeRow (xs.getD k nilEd)) := ⟨Int.natCast_nonneg k, rowsN nilEd h⟩
theorem zEdges {xs : List (EdgeD)} {n : Int} (h : 0 ≤ n ∧ n < xs.length) : (dEdges xs)[n.toNat]? = some (edgeRow (xs.getD n.toNat nilEd)) := rowsZ nilEd h
theorem lEdges {xs : List (EdgeD)} : (dEdges xs).length = xs.length := List.length_map _
theorem aEdges {xs ys : List (EdgeD)} : dEdges xs ++ dEdges ys = dEdges (xs ++ ys) := List.map_append.symm
theorem sEdges {xs : List (EdgeD)} {x : EdgeD} : dEdges xs ++ [edgeRow x] = dEdges (xs ++ [x]) := aEdges (ys := [x])
theorem wEdges {xs : List (EdgeD)} {j : Nat} {x : EdgeD} : (dEdges xs).set j (edgeRow x) = dEdges (xs.set j x) := List.map_set.symm
theorem gSess {xs : List (SesD)} {n : Int} (h : 0 ≤ n ∧ n < xs.length) : 0 ≤ n ∧ (dSess xs)[n.toNat]? = some (sesRow (xs.getD n.toNat nilSe)) := rowsG nilSe h
theorem gSessN {xs : List (SesD)} {k : Nat} (h : k < xs.length) : 0 ≤ (k : Int) ∧ (dSess xs)[(k : Int).toNat]? = some (sesRow (xs.getD k nilSe)) := ⟨Int.natCast_nonneg k, rowsN nilSe h⟩
theorem zSess {xs : List (SesD)} {n : Int} (h : 0 ≤ n ∧ n < xs.length) : (dSess xs)[n.toNat]? = some (sesRow (xs.getD n.toNat nilSe)) := rowsZ nilSe h
theorem lSess {xs : List (SesD)} : (dSess xs).length = xs.length := List.length_map _
theorem nSess {xs : List (SesD)} {a b : Nat} : ((dSess xs).drop a).take b = dSess ((xs.drop a).take b) := by unfold dSess; rw [List.map_take, List.map_drop]
theorem wSess {xs : List (SesD)} {j : Nat} {x : SesD} : (dSess xs).set j (sesRow x) = dSess (xs.set j x) := List.map_set.symm
theorem gCalls {xs : List (CallD)} {n : Int} (h : 0 ≤ n ∧ n < xs.length) : 0 ≤ n ∧ (dCalls xs)[n.toNat]? = some (callRow (xs.getD n.toNat nilCa)) := rowsG nilCa h
theorem gCallsN {xs : List (CallD)} {k : Nat} (h : k < xs.length) : 0 ≤ (k : Int) ∧ (dCalls xs)[(k : Int).toNat]? = some (callRow (xs.getD k nilCa)) := ⟨Int.natCast_nonneg k, rowsN nilCa h⟩
theorem zCalls {xs : List (CallD)} {n : Int} (h : 0 ≤ n ∧ n < xs.length) : (dCalls xs)[n.toNat]? = some (callRow (xs.getD n.toNat nilCa)) := rowsZ nilCa h
theorem lCalls {xs : List (CallD)} : (dCalls xs).length = xs.length := List.length_map _
theorem wCalls {xs : List (CallD)} {j : Nat} {x : CallD} : (dCalls xs).set j (callRow x) = dCalls (xs.set j x) := List.map_set.symm
theorem gTops {xs : List (TopD)} {n : Int} (h : 0 ≤ n ∧ n < xs.length) : 0 ≤ n ∧ (dTops xs)[n.toNat]? = some (topRow (xs.getD n.toNat nilTo)) := rowsG nilTo h
theorem gTopsN {xs : List (TopD)} {k : Nat} (h : k < xs.length) : 0 ≤ (k : Int) ∧ (dTops xs)[(k : Int).toNat]? = some (topRow (xs.getD k nilTo)) := ⟨Int.natCast_nonneg k, rowsN nilTo h⟩
theorem zTops {xs : List (TopD)} {n : Int} (h : 0 ≤ n ∧ n < xs.length) : (dTops xs)[n.toNat]? = some (topRow (xs.getD n.toNat nilTo)) := rowsZ nilTo h
theorem lTops {xs : List (TopD)} : (dTops xs).length = xs.length := List.length_map _
theorem wTops {xs : List (TopD)} {j : Nat} {x : TopD} : (dTops xs).set j (topRow x) = dTops (xs.set j x) := List.map_set.symm
theorem gStrs {xs : List (ByteArray)} {n : Int} (h : 0 ≤ n ∧ n < xs.length) : 0 ≤ n ∧ (dStrs xs)[n.toNat]? = some ([.v (.string (xs.getD n.toNat ByteArray.empty))]) := rowsG ByteArray.empty h
theorem gStrsN {xs : List (ByteArray)} {k : Nat} (h : k < xs.length) : 0 ≤ (k : Int) ∧ (dStrs xs)[(k : Int).toNat]? = some ([.v (.string (xs.getD k ByteArray.empty))]) := ⟨Int.natCast_nonneg k, rowsN ByteArray.empty h⟩
theorem zStrs {xs : List (ByteArray)} {n : Int} (h : 0 ≤ n ∧ n < xs.length) : (dStrs xs)[n.toNat]? = some ([.v (.string (xs.getD n.toNat ByteArray.empty))]) := rowsZ ByteArray.empty h
theorem lStrs {xs : List (ByteArray)} : (dStrs xs).length = xs.length := List.length_map _
theorem aStrs {xs ys : List (ByteArray)} : dStrs xs ++ dStrs ys = dStrs (xs ++ ys) := List.map_append.symm
theorem sStrs {xs : List (ByteArray)} {x : ByteArray} : dStrs xs ++ [[.v (.string x)]] = dStrs (xs ++ [x]) := aStrs (ys := [x])
theorem oStrs {x : ByteArray} : [[.v (.string x)]] = dStrs [x] := rfl
theorem wStrs {xs : List (ByteArray)} {j : Nat} {x : ByteArray} : (dStrs xs).set j ([.v (.string x)]) = dStrs (xs.set j x) := List.map_set.symm
theorem gVals {xs : List (ValD)} {n : Int} (h : 0 ≤ n ∧ n < xs.length) : 0 ≤ n ∧ (dVals xs)[n.toNat]? = some (valRow1 (xs.getD n.toNat nilV)) := by simp only [dVals_eq]; exact rowsG nilV h
theorem gValsN {xs : List (ValD)} {k : Nat} (h : k < xs.length) : 0 ≤ (k : Int) ∧ (dVals xs)[(k : Int).toNat]? = some (valRow1 (xs.getD k nilV)) := by simp only [dVals_eq]; exact ⟨Int.natCast_nonneg k, rowsN nilV h⟩
theorem zVals {xs : List (ValD)} {n : Int} (h : 0 ≤ n ∧ n < xs.length) : (dVals xs)[n.toNat]? = some (valRow1 (xs.getD n.toNat nilV)) := by simp only [dVals_eq]; exact rowsZ nilV h
theorem lVals {xs : List (ValD)} : (dVals xs).length = xs.length := by simp only [dVals_eq]; exact List.length_map _
theorem wVals {xs : List (ValD)} {j : Nat} {x : ValD} : (dVals xs).set j (valRow1 x) = dVals (xs.set j x) := by simp only [dVals_eq]; exact List.map_set.symm
theorem sEdgesC {xs : List EdgeD} {a : Int} {b : Bool} {c d : Int} : dEdges xs ++ [[.v (.int .i64 a), .v (.bool b), .v (.int .i64 c), .v (.int .i64 d)]] = dEdges (xs ++ [⟨a, b, c, d⟩]) := sEdges (x := ⟨a, b, c, d⟩)
end Go.Proofs.YtjpdemikmdfonaaGreatDoor

namespace Go.Proofs.YtjpdemikmdfonaaGreatDoor
open Go Go.RowKit
class FdC (s : TypeId) (f : Nat) (off : outParam Nat) (l : outParam (Option Nat)) : Prop where
 h : FdI Tryz.prog s f off l
class LdC (t : TypeId) : Prop where
 h : LdI Tryz.prog t none
class LdA (t : TypeId) (n : Nat) : Prop where
 h : LdI Tryz.prog t (some n)
class SzC (t : TypeId) (n : outParam Nat) : Prop where
 h : SzI Tryz.prog t n
class BoC (g : FuncId) : Prop where
 h : BoI Tryz.prog g
instance bo4 : BoC 4 := ⟨⟨by kernel_rfl⟩⟩
instance bo5 : BoC 5 := ⟨⟨by kernel_rfl⟩⟩
instance bo6 : BoC 6 := ⟨⟨by kernel_rfl⟩⟩
instance bo7 : BoC 7 := ⟨⟨by kernel_rfl⟩⟩
instance bo14 : BoC 14 := ⟨⟨by kernel_rfl⟩⟩
instance bo15 : BoC 15 := ⟨⟨by kernel_rfl⟩⟩
instance bo16 : BoC 16 := ⟨⟨by kernel_rfl⟩⟩
instance bo17 : BoC 17 := ⟨⟨by kernel_rfl⟩⟩
instance bo18 : BoC 18 := ⟨⟨by kernel_rfl⟩⟩
instance bo20 : BoC 20 := ⟨⟨by kernel_rfl⟩⟩
instance bo21 : BoC 21 := ⟨⟨by kernel_rfl⟩⟩
instance bo22 : BoC 22 := ⟨⟨by kernel_rfl⟩⟩
instance bo26 : BoC 26 := ⟨⟨by kernel_rfl⟩⟩
instance bo38 : BoC 38 := ⟨⟨by kernel_rfl⟩⟩
instance bo39 : BoC 39 := ⟨⟨by kernel_rfl⟩⟩
instance bo40 : BoC 40 := ⟨⟨by kernel_rfl⟩⟩
instance bo41 : BoC 41 := ⟨⟨by kernel_rfl⟩⟩
instance bo42 : BoC 42 := ⟨⟨by kernel_rfl⟩⟩
instance bo43 : BoC 43 := ⟨⟨by kernel_rfl⟩⟩
instance bo44 : BoC 44 := ⟨⟨by kernel_rfl⟩⟩
instance bo45 : BoC 45 := ⟨⟨by kernel_rfl⟩⟩
instance bo46 : BoC 46 := ⟨⟨by kernel_rfl⟩⟩
instance bo47 : BoC 47 := ⟨⟨by kernel_rfl⟩⟩
instance bo48 : BoC 48 := ⟨⟨by kernel_rfl⟩⟩
instance bo49 : BoC 49 := ⟨⟨by kernel_rfl⟩⟩
instance bo52 : BoC 52 := ⟨⟨by kernel_rfl⟩⟩
instance bo56 : BoC 56 := ⟨⟨by kernel_rfl⟩⟩
instance bo57 : BoC 57 := ⟨⟨by kernel_rfl⟩⟩
instance bo59 : BoC 59 := ⟨⟨by kernel_rfl⟩⟩
instance bo60 : BoC 60 := ⟨⟨by kernel_rfl⟩⟩
instance bo62 : BoC 62 := ⟨⟨by kernel_rfl⟩⟩
instance bo63 : BoC 63 := ⟨⟨by kernel_rfl⟩⟩
instance bo64 : BoC 64 := ⟨⟨by kernel_rfl⟩⟩
instance bo65 : BoC 65 := ⟨⟨by kernel_rfl⟩⟩
instance bo66 : BoC 66 := ⟨⟨by kernel_rfl⟩⟩
instance bo67 : BoC 67 := ⟨⟨by kernel_rfl⟩⟩
instance bo68 : BoC 68 := ⟨⟨by kernel_rfl⟩⟩
instance bo69 : BoC 69 := ⟨⟨by kernel_rfl⟩⟩
instance bo70 : BoC 70 := ⟨⟨by kernel_rfl⟩⟩
instance bo75 : BoC 75 := ⟨⟨by kernel_rfl⟩⟩
instance bo76 : BoC 76 := ⟨⟨by kernel_rfl⟩⟩
instance bo77 : BoC 77 := ⟨⟨by kernel_rfl⟩⟩
instance bo78 : BoC 78 := ⟨⟨by kernel_rfl⟩⟩
instance bo79 : BoC 79 := ⟨⟨by kernel_rfl⟩⟩
instance bo80 : BoC 80 := ⟨⟨by kernel_rfl⟩⟩
instance bo81 : BoC 81 := ⟨⟨by kernel_rfl⟩⟩
instance bo82 : BoC 82 := ⟨⟨by kernel_rfl⟩⟩
instance bo83 : BoC 83 := ⟨⟨by kernel_rfl⟩⟩
instance bo84 : BoC 84 := ⟨⟨by kernel_rfl⟩⟩
instance bo85 : BoC 85 := ⟨⟨by kernel_rfl⟩⟩
instance bo86 : BoC 86 := ⟨⟨by kernel_rfl⟩⟩
instance bo87 : BoC 87 := ⟨⟨by kernel_rfl⟩⟩
instance bo88 : BoC 88 := ⟨⟨by kernel_rfl⟩⟩
instance bo89 : BoC 89 := ⟨⟨by kernel_rfl⟩⟩
instance bo90 : BoC 90 := ⟨⟨by kernel_rfl⟩⟩
instance bo91 : BoC 91 := ⟨⟨by kernel_rfl⟩⟩
instance bo92 : BoC 92 := ⟨⟨by kernel_rfl⟩⟩
instance bo93 : BoC 93 := ⟨⟨by kernel_rfl⟩⟩
instance bo94 : BoC 94 := ⟨⟨by kernel_rfl⟩⟩
instance bo99 : BoC 99 := ⟨⟨by kernel_rfl⟩⟩
instance bo101 : BoC 101 := ⟨⟨by kernel_rfl⟩⟩
instance bo102 : BoC 102 := ⟨⟨by kernel_rfl⟩⟩
instance bo103 : BoC 103 := ⟨⟨by kernel_rfl⟩⟩
instance bo104 : BoC 104 := ⟨⟨by kernel_rfl⟩⟩
instance bo105 : BoC 105 := ⟨⟨by kernel_rfl⟩⟩
instance bo106 : BoC 106 := ⟨⟨by kernel_rfl⟩⟩
instance bo107 : BoC 107 := ⟨⟨by kernel_rfl⟩⟩
instance bo108 : BoC 108 := ⟨⟨by kernel_rfl⟩⟩
instance bo109 : BoC 109 := ⟨⟨by kernel_rfl⟩⟩
instance bo110 : BoC 110 := ⟨⟨by kernel_rfl⟩⟩
instance bo111 : BoC 111 := ⟨⟨by kernel_rfl⟩⟩
instance bo138 : BoC 138 := ⟨⟨by kernel_rfl⟩⟩
instance bo139 : BoC 139 := ⟨⟨by kernel_rfl⟩⟩
instance bo140 : BoC 140 := ⟨⟨by kernel_rfl⟩⟩
instance bo141 : BoC 141 := ⟨⟨by kernel_rfl⟩⟩
instance bo142 : BoC 142 := ⟨⟨by kernel_rfl⟩⟩
instance bo143 : BoC 143 := ⟨⟨by kernel_rfl⟩⟩
instance bo144 : BoC 144 := ⟨⟨by kernel_rfl⟩⟩
instance bo145 : BoC 145 := ⟨⟨by kernel_rfl⟩⟩
instance bo146 : BoC 146 := ⟨⟨by kernel_rfl⟩⟩
instance bo147 : BoC 147 := ⟨⟨by kernel_rfl⟩⟩
instance bo148 : BoC 148 := ⟨⟨by kernel_rfl⟩⟩
instance bo150 : BoC 150 := ⟨⟨by kernel_rfl⟩⟩
instance bo151 : BoC 151 := ⟨⟨by kernel_rfl⟩⟩
instance bo152 : BoC 152 := ⟨⟨by kernel_rfl⟩⟩
instance bo153 : BoC 153 := ⟨⟨by kernel_rfl⟩⟩
instance bo154 : BoC 154 := ⟨⟨by kernel_rfl⟩⟩
instance bo155 : BoC 155 := ⟨⟨by kernel_rfl⟩⟩
instance bo156 : BoC 156 := ⟨⟨by kernel_rfl⟩⟩
instance bo157 : BoC 157 := ⟨⟨by kernel_rfl⟩⟩
instance bo158 : BoC 158 := ⟨⟨by kernel_rfl⟩⟩
instance bo192 : BoC 192 := ⟨⟨by kernel_rfl⟩⟩
instance bo193 : BoC 193 := ⟨⟨by kernel_rfl⟩⟩
instance bo196 : BoC 196 := ⟨⟨by kernel_rfl⟩⟩
instance bo197 : BoC 197 := ⟨⟨by kernel_rfl⟩⟩
instance bo198 : BoC 198 := ⟨⟨by kernel_rfl⟩⟩
instance bo199 : BoC 199 := ⟨⟨by kernel_rfl⟩⟩
instance bo200 : BoC 200 := ⟨⟨by kernel_rfl⟩⟩
instance bo202 : BoC 202 := ⟨⟨by kernel_rfl⟩⟩
instance bo206 : BoC 206 := ⟨⟨by kernel_rfl⟩⟩
instance bo207 : BoC 207 := ⟨⟨by kernel_rfl⟩⟩
instance bo208 : BoC 208 := ⟨⟨by kernel_rfl⟩⟩
instance bo209 : BoC 209 := ⟨⟨by kernel_rfl⟩⟩
instance bo210 : BoC 210 := ⟨⟨by kernel_rfl⟩⟩
instance bo211 : BoC 211 := ⟨⟨by kernel_rfl⟩⟩
instance bo212 : BoC 212 := ⟨⟨by kernel_rfl⟩⟩
instance bo213 : BoC 213 := ⟨⟨by kernel_rfl⟩⟩
instance bo214 : BoC 214 := ⟨⟨by kernel_rfl⟩⟩
instance bo215 : BoC 215 := ⟨⟨by kernel_rfl⟩⟩
instance bo216 : BoC 216 := ⟨⟨by kernel_rfl⟩⟩
instance bo234 : BoC 234 := ⟨⟨by kernel_rfl⟩⟩
instance bo240 : BoC 240 := ⟨⟨by kernel_rfl⟩⟩
instance bo252 : BoC 252 := ⟨⟨by kernel_rfl⟩⟩
instance bo254 : BoC 254 := ⟨⟨by kernel_rfl⟩⟩
instance bo258 : BoC 258 := ⟨⟨by kernel_rfl⟩⟩
instance bo259 : BoC 259 := ⟨⟨by kernel_rfl⟩⟩
instance bo260 : BoC 260 := ⟨⟨by kernel_rfl⟩⟩
instance bo269 : BoC 269 := ⟨⟨by kernel_rfl⟩⟩
instance bo270 : BoC 270 := ⟨⟨by kernel_rfl⟩⟩
instance bo271 : BoC 271 := ⟨⟨by kernel_rfl⟩⟩
instance bo272 : BoC 272 := ⟨⟨by kernel_rfl⟩⟩
instance bo273 : BoC 273 := ⟨⟨by kernel_rfl⟩⟩
instance bo295 : BoC 295 := ⟨⟨by kernel_rfl⟩⟩
instance bo296 : BoC 296 := ⟨⟨by kernel_rfl⟩⟩
instance bo297 : BoC 297 := ⟨⟨by kernel_rfl⟩⟩
instance bo298 : BoC 298 := ⟨⟨by kernel_rfl⟩⟩
instance bo302 : BoC 302 := ⟨⟨by kernel_rfl⟩⟩
instance bo303 : BoC 303 := ⟨⟨by kernel_rfl⟩⟩
instance bo304 : BoC 304 := ⟨⟨by kernel_rfl⟩⟩
instance bo305 : BoC 305 := ⟨⟨by kernel_rfl⟩⟩
instance bo306 : BoC 306 := ⟨⟨by kernel_rfl⟩⟩
instance bo307 : BoC 307 := ⟨⟨by kernel_rfl⟩⟩
instance bo308 : BoC 308 := ⟨⟨by kernel_rfl⟩⟩
instance bo309 : BoC 309 := ⟨⟨by kernel_rfl⟩⟩
instance bo340 : BoC 340 := ⟨⟨by kernel_rfl⟩⟩
instance bo341 : BoC 341 := ⟨⟨by kernel_rfl⟩⟩
instance bo343 : BoC 343 := ⟨⟨by kernel_rfl⟩⟩
instance bo344 : BoC 344 := ⟨⟨by kernel_rfl⟩⟩
instance bo346 : BoC 346 := ⟨⟨by kernel_rfl⟩⟩
instance bo347 : BoC 347 := ⟨⟨by kernel_rfl⟩⟩
instance bo364 : BoC 364 := ⟨⟨by kernel_rfl⟩⟩
instance bo376 : BoC 376 := ⟨⟨by kernel_rfl⟩⟩
instance bo377 : BoC 377 := ⟨⟨by kernel_rfl⟩⟩
instance bo378 : BoC 378 := ⟨⟨by kernel_rfl⟩⟩
theorem ef30 : EfI Tryz.prog 30 3 1 8 [.d (.v (.int .i64 0))] := ⟨by kernel_rfl⟩
theorem ef39 : EfI Tryz.prog 39 4 1 1 [.d (.v (.bool false))] := ⟨by kernel_rfl⟩
theorem ef40 : EfI Tryz.prog 40 39 1 24 [.zero] := ⟨by kernel_rfl⟩
theorem ef90 : EfI Tryz.prog 90 193 4 32 [.d (.v (.int .i64 0)), .d (.v (.bool false)), .d (.v (.int .i64 0)), .d (.v (.int .i64 0))] := ⟨by kernel_rfl⟩
theorem ef123 : EfI Tryz.prog 123 9 1 16 [.d (.v (.string ByteArray.empty))] := ⟨by kernel_rfl⟩
theorem el22 : ElI Tryz.prog 22 4 := ⟨by kernel_rfl⟩
theorem el23 : ElI Tryz.prog 23 6 := ⟨by kernel_rfl⟩
theorem el30 : ElI Tryz.prog 30 1 := ⟨by kernel_rfl⟩
theorem el31 : ElI Tryz.prog 31 6 := ⟨by kernel_rfl⟩
theorem el39 : ElI Tryz.prog 39 1 := ⟨by kernel_rfl⟩
theorem el40 : ElI Tryz.prog 40 1 := ⟨by kernel_rfl⟩
theorem el44 : ElI Tryz.prog 44 5 := ⟨by kernel_rfl⟩
theorem el48 : ElI Tryz.prog 48 10 := ⟨by kernel_rfl⟩
theorem el51 : ElI Tryz.prog 51 3 := ⟨by kernel_rfl⟩
theorem el52 : ElI Tryz.prog 52 5 := ⟨by kernel_rfl⟩
theorem el53 : ElI Tryz.prog 53 2 := ⟨by kernel_rfl⟩
theorem el70 : ElI Tryz.prog 70 2 := ⟨by kernel_rfl⟩
theorem el71 : ElI Tryz.prog 71 13 := ⟨by kernel_rfl⟩
theorem el89 : ElI Tryz.prog 89 3 := ⟨by kernel_rfl⟩
theorem el90 : ElI Tryz.prog 90 4 := ⟨by kernel_rfl⟩
theorem el115 : ElI Tryz.prog 115 8 := ⟨by kernel_rfl⟩
theorem el116 : ElI Tryz.prog 116 2 := ⟨by kernel_rfl⟩
theorem el123 : ElI Tryz.prog 123 1 := ⟨by kernel_rfl⟩
instance fd25_0 : FdC 25 0 0 none := ⟨⟨by kernel_rfl⟩⟩
instance fd25_1 : FdC 25 1 1 none := ⟨⟨by kernel_rfl⟩⟩
instance fd33_0 : FdC 33 0 0 none := ⟨⟨by kernel_rfl⟩⟩
instance fd33_1 : FdC 33 1 1 none := ⟨⟨by kernel_rfl⟩⟩
instance fd33_2 : FdC 33 2 2 none := ⟨⟨by kernel_rfl⟩⟩
instance fd33_3 : FdC 33 3 3 none := ⟨⟨by kernel_rfl⟩⟩
instance fd42_0 : FdC 42 0 0 none := ⟨⟨by kernel_rfl⟩⟩
instance fd42_1 : FdC 42 1 1 none := ⟨⟨by kernel_rfl⟩⟩
instance fd42_2 : FdC 42 2 2 none := ⟨⟨by kernel_rfl⟩⟩
instance fd42_3 : FdC 42 3 3 none := ⟨⟨by kernel_rfl⟩⟩
instance fd42_4 : FdC 42 4 4 none := ⟨⟨by kernel_rfl⟩⟩
instance fd42_5 : FdC 42 5 5 none := ⟨⟨by kernel_rfl⟩⟩
instance fd46_0 : FdC 46 0 0 none := ⟨⟨by kernel_rfl⟩⟩
instance fd46_1 : FdC 46 1 1 none := ⟨⟨by kernel_rfl⟩⟩
instance fd46_2 : FdC 46 2 2 none := ⟨⟨by kernel_rfl⟩⟩
instance fd46_3 : FdC 46 3 3 none := ⟨⟨by kernel_rfl⟩⟩
instance fd50_0 : FdC 50 0 0 none := ⟨⟨by kernel_rfl⟩⟩
instance fd55_0 : FdC 55 0 0 none := ⟨⟨by kernel_rfl⟩⟩
instance fd55_1 : FdC 55 1 1 (some 1) := ⟨⟨by kernel_rfl⟩⟩
instance fd55_2 : FdC 55 2 2 none := ⟨⟨by kernel_rfl⟩⟩
instance fd55_3 : FdC 55 3 3 none := ⟨⟨by kernel_rfl⟩⟩
instance fd55_4 : FdC 55 4 4 none := ⟨⟨by kernel_rfl⟩⟩
instance fd60_0 : FdC 60 0 0 none := ⟨⟨by kernel_rfl⟩⟩
instance fd60_1 : FdC 60 1 1 none := ⟨⟨by kernel_rfl⟩⟩
instance fd60_2 : FdC 60 2 2 none := ⟨⟨by kernel_rfl⟩⟩
instance fd60_3 : FdC 60 3 3 none := ⟨⟨by kernel_rfl⟩⟩
instance fd60_4 : FdC 60 4 4 none := ⟨⟨by kernel_rfl⟩⟩
instance fd60_5 : FdC 60 5 5 none := ⟨⟨by kernel_rfl⟩⟩
instance fd73_0 : FdC 73 0 0 none := ⟨⟨by kernel_rfl⟩⟩
instance fd73_1 : FdC 73 1 1 none := ⟨⟨by kernel_rfl⟩⟩
instance fd73_2 : FdC 73 2 2 none := ⟨⟨by kernel_rfl⟩⟩
instance fd73_3 : FdC 73 3 3 none := ⟨⟨by kernel_rfl⟩⟩
instance fd73_4 : FdC 73 4 4 none := ⟨⟨by kernel_rfl⟩⟩
instance fd73_5 : FdC 73 5 5 none := ⟨⟨by kernel_rfl⟩⟩
instance fd73_6 : FdC 73 6 6 none := ⟨⟨by kernel_rfl⟩⟩
instance fd73_7 : FdC 73 7 7 none := ⟨⟨by kernel_rfl⟩⟩
instance fd73_8 : FdC 73 8 8 none := ⟨⟨by kernel_rfl⟩⟩
instance fd73_9 : FdC 73 9 9 none := ⟨⟨by kernel_rfl⟩⟩
instance fd75_0 : FdC 75 0 0 none := ⟨⟨by kernel_rfl⟩⟩
instance fd75_1 : FdC 75 1 1 none := ⟨⟨by kernel_rfl⟩⟩
instance fd92_0 : FdC 92 0 0 none := ⟨⟨by kernel_rfl⟩⟩
instance fd92_1 : FdC 92 1 1 none := ⟨⟨by kernel_rfl⟩⟩
instance fd92_2 : FdC 92 2 2 none := ⟨⟨by kernel_rfl⟩⟩
instance fd94_0 : FdC 94 0 0 none := ⟨⟨by kernel_rfl⟩⟩
instance fd94_1 : FdC 94 1 1 none := ⟨⟨by kernel_rfl⟩⟩
instance fd94_2 : FdC 94 2 2 (some 3) := ⟨⟨by kernel_rfl⟩⟩
instance fd101_0 : FdC 101 0 0 none := ⟨⟨by kernel_rfl⟩⟩
instance fd118_0 : FdC 118 0 0 none := ⟨⟨by kernel_rfl⟩⟩
instance fd118_1 : FdC 118 1 1 none := ⟨⟨by kernel_rfl⟩⟩
instance fd118_2 : FdC 118 2 2 none := ⟨⟨by kernel_rfl⟩⟩
instance fd118_3 : FdC 118 3 3 none := ⟨⟨by kernel_rfl⟩⟩
instance fd118_4 : FdC 118 4 4 none := ⟨⟨by kernel_rfl⟩⟩
instance fd118_5 : FdC 118 5 5 none := ⟨⟨by kernel_rfl⟩⟩
instance fd118_6 : FdC 118 6 6 none := ⟨⟨by kernel_rfl⟩⟩
instance fd118_7 : FdC 118 7 7 none := ⟨⟨by kernel_rfl⟩⟩
instance fd120_0 : FdC 120 0 0 none := ⟨⟨by kernel_rfl⟩⟩
instance fd120_1 : FdC 120 1 1 none := ⟨⟨by kernel_rfl⟩⟩
instance fd120_2 : FdC 120 2 2 none := ⟨⟨by kernel_rfl⟩⟩
instance fd120_3 : FdC 120 3 3 none := ⟨⟨by kernel_rfl⟩⟩
instance fd120_4 : FdC 120 4 4 none := ⟨⟨by kernel_rfl⟩⟩
instance fd120_5 : FdC 120 5 5 (some 8) := ⟨⟨by kernel_rfl⟩⟩
instance fd125_0 : FdC 125 0 0 none := ⟨⟨by kernel_rfl⟩⟩
instance fd127_0 : FdC 127 0 0 none := ⟨⟨by kernel_rfl⟩⟩
instance fd127_1 : FdC 127 1 1 none := ⟨⟨by kernel_rfl⟩⟩
instance fd127_2 : FdC 127 2 2 none := ⟨⟨by kernel_rfl⟩⟩
instance fd142_0 : FdC 142 0 0 none := ⟨⟨by kernel_rfl⟩⟩
instance fd142_1 : FdC 142 1 1 none := ⟨⟨by kernel_rfl⟩⟩
instance fd162_2 : FdC 162 2 20 (some 7) := ⟨⟨by kernel_rfl⟩⟩
instance fd168_2 : FdC 168 2 2 none := ⟨⟨by kernel_rfl⟩⟩
instance fd189_0 : FdC 189 0 0 none := ⟨⟨by kernel_rfl⟩⟩
instance fd189_1 : FdC 189 1 1 none := ⟨⟨by kernel_rfl⟩⟩
instance fd189_2 : FdC 189 2 2 none := ⟨⟨by kernel_rfl⟩⟩
instance fd193_0 : FdC 193 0 0 none := ⟨⟨by kernel_rfl⟩⟩
instance fd193_1 : FdC 193 1 1 none := ⟨⟨by kernel_rfl⟩⟩
instance fd193_2 : FdC 193 2 2 none := ⟨⟨by kernel_rfl⟩⟩
instance fd193_3 : FdC 193 3 3 none := ⟨⟨by kernel_rfl⟩⟩
instance fd296_0 : FdC 296 0 0 none := ⟨⟨by kernel_rfl⟩⟩
instance fd296_1 : FdC 296 1 1 none := ⟨⟨by kernel_rfl⟩⟩
theorem ib4 : IbI Tryz.prog 4 := ⟨by kernel_rfl⟩
theorem ik2 : IkI Tryz.prog 2 .i64 := ⟨by kernel_rfl⟩
theorem ik275 : IkI Tryz.prog 275 .u64 := ⟨by kernel_rfl⟩
theorem is30 : IsI Tryz.prog 30 := ⟨by kernel_rfl⟩
theorem is39 : IsI Tryz.prog 39 := ⟨by kernel_rfl⟩
theorem is40 : IsI Tryz.prog 40 := ⟨by kernel_rfl⟩
theorem is90 : IsI Tryz.prog 90 := ⟨by kernel_rfl⟩
theorem is123 : IsI Tryz.prog 123 := ⟨by kernel_rfl⟩
instance ld2 : LdC 2 := ⟨⟨by kernel_rfl⟩⟩
instance ld3 : LdC 3 := ⟨⟨by kernel_rfl⟩⟩
instance ld4 : LdC 4 := ⟨⟨by kernel_rfl⟩⟩
instance ld9 : LdC 9 := ⟨⟨by kernel_rfl⟩⟩
instance ld22 : LdC 22 := ⟨⟨by kernel_rfl⟩⟩
instance ld23 : LdC 23 := ⟨⟨by kernel_rfl⟩⟩
instance ld25 : LdA 25 2 := ⟨⟨by kernel_rfl⟩⟩
instance ld30 : LdC 30 := ⟨⟨by kernel_rfl⟩⟩
instance ld31 : LdC 31 := ⟨⟨by kernel_rfl⟩⟩
instance ld33 : LdA 33 4 := ⟨⟨by kernel_rfl⟩⟩
instance ld39 : LdC 39 := ⟨⟨by kernel_rfl⟩⟩
instance ld40 : LdC 40 := ⟨⟨by kernel_rfl⟩⟩
instance ld42 : LdA 42 6 := ⟨⟨by kernel_rfl⟩⟩
instance ld44 : LdC 44 := ⟨⟨by kernel_rfl⟩⟩
instance ld46 : LdA 46 4 := ⟨⟨by kernel_rfl⟩⟩
instance ld48 : LdC 48 := ⟨⟨by kernel_rfl⟩⟩
instance ld50 : LdA 50 1 := ⟨⟨by kernel_rfl⟩⟩
instance ld51 : LdC 51 := ⟨⟨by kernel_rfl⟩⟩
instance ld52 : LdC 52 := ⟨⟨by kernel_rfl⟩⟩
instance ld53 : LdC 53 := ⟨⟨by kernel_rfl⟩⟩
instance ld55 : LdA 55 5 := ⟨⟨by kernel_rfl⟩⟩
instance ld60 : LdA 60 6 := ⟨⟨by kernel_rfl⟩⟩
instance ld70 : LdC 70 := ⟨⟨by kernel_rfl⟩⟩
instance ld71 : LdC 71 := ⟨⟨by kernel_rfl⟩⟩
instance ld73 : LdA 73 10 := ⟨⟨by kernel_rfl⟩⟩
instance ld75 : LdA 75 2 := ⟨⟨by kernel_rfl⟩⟩
instance ld89 : LdC 89 := ⟨⟨by kernel_rfl⟩⟩
instance ld90 : LdC 90 := ⟨⟨by kernel_rfl⟩⟩
instance ld92 : LdA 92 3 := ⟨⟨by kernel_rfl⟩⟩
instance ld94 : LdA 94 5 := ⟨⟨by kernel_rfl⟩⟩
instance ld101 : LdA 101 4 := ⟨⟨by kernel_rfl⟩⟩
instance ld115 : LdC 115 := ⟨⟨by kernel_rfl⟩⟩
instance ld116 : LdC 116 := ⟨⟨by kernel_rfl⟩⟩
instance ld118 : LdA 118 8 := ⟨⟨by kernel_rfl⟩⟩
instance ld120 : LdA 120 13 := ⟨⟨by kernel_rfl⟩⟩
instance ld123 : LdC 123 := ⟨⟨by kernel_rfl⟩⟩
instance ld127 : LdA 127 3 := ⟨⟨by kernel_rfl⟩⟩
instance ld142 : LdA 142 2 := ⟨⟨by kernel_rfl⟩⟩
instance ld160 : LdA 160 7 := ⟨⟨by kernel_rfl⟩⟩
instance ld162 : LdA 162 27 := ⟨⟨by kernel_rfl⟩⟩
instance ld189 : LdA 189 3 := ⟨⟨by kernel_rfl⟩⟩
instance ld193 : LdA 193 4 := ⟨⟨by kernel_rfl⟩⟩
instance ld296 : LdA 296 2 := ⟨⟨by kernel_rfl⟩⟩
theorem ns3 : NsI Tryz.prog 3 := ⟨by kernel_rfl⟩
theorem ns4 : NsI Tryz.prog 4 := ⟨by kernel_rfl⟩
theorem pl73 : PlI Tryz.prog 73 [.d (.v (.int .i64 0)), .d (.v (.string ByteArray.empty)), .d (.v (.int .i64 0)), .d (.v (.int .i64 0)), .d (.v (.int .i64 0)), .zero, .zero, .d (.v (.int .i64 0)), .d (.v (.int .i64 0)), .d (.v (.bool false))] [(0, 1), (1, 1), (2, 1), (3, 1), (4, 1), (5, 1), (6, 1), (7, 1), (8, 1), (9, 1)] := ⟨by kernel_rfl⟩
theorem pl92 : PlI Tryz.prog 92 [.d (.v (.int .i64 0)), .d (.v (.int .i64 0)), .zero] [(0, 1), (1, 1), (2, 1)] := ⟨by kernel_rfl⟩
theorem pl101 : PlI Tryz.prog 101 [.d (.v (.int .i64 0)), .d (.v (.int .i64 0)), .d (.v (.string ByteArray.empty)), .zero] [(0, 1), (1, 1), (2, 1), (3, 1)] := ⟨by kernel_rfl⟩
theorem pl118 : PlI Tryz.prog 118 [.d (.v (.int .i64 0)), .d (.v (.bool false)), .d (.v (.int .i64 0)), .d (.v (.string ByteArray.empty)), .d (.v (.int .i64 0)), .zero, .zero, .zero] [(0, 1), (1, 1), (2, 1), (3, 1), (4, 1), (5, 1), (6, 1), (7, 1)] := ⟨by kernel_rfl⟩
theorem pl125 : PlI Tryz.prog 125 [.zero] [(0, 1)] := ⟨by kernel_rfl⟩
theorem pl168 : PlI Tryz.prog 168 [.d (.v (.int .i64 0)), .d (.v (.bool false)), .d (.v (.int .i64 0))] [(0, 1), (1, 1), (2, 1)] := ⟨by kernel_rfl⟩
theorem pl189 : PlI Tryz.prog 189 [.d (.v (.int .i64 0)), .d (.v (.string ByteArray.empty)), .d (.v (.int .i64 0))] [(0, 1), (1, 1), (2, 1)] := ⟨by kernel_rfl⟩
theorem pl193 : PlI Tryz.prog 193 [.d (.v (.int .i64 0)), .d (.v (.bool false)), .d (.v (.int .i64 0)), .d (.v (.int .i64 0))] [(0, 1), (1, 1), (2, 1), (3, 1)] := ⟨by kernel_rfl⟩
instance sz2 : SzC 2 1 := ⟨⟨by kernel_rfl⟩⟩
instance sz3 : SzC 3 1 := ⟨⟨by kernel_rfl⟩⟩
instance sz4 : SzC 4 1 := ⟨⟨by kernel_rfl⟩⟩
instance sz9 : SzC 9 1 := ⟨⟨by kernel_rfl⟩⟩
instance sz42 : SzC 42 6 := ⟨⟨by kernel_rfl⟩⟩
instance sz46 : SzC 46 4 := ⟨⟨by kernel_rfl⟩⟩
instance sz55 : SzC 55 5 := ⟨⟨by kernel_rfl⟩⟩
instance sz60 : SzC 60 6 := ⟨⟨by kernel_rfl⟩⟩
instance sz70 : SzC 70 1 := ⟨⟨by kernel_rfl⟩⟩
instance sz71 : SzC 71 1 := ⟨⟨by kernel_rfl⟩⟩
instance sz73 : SzC 73 10 := ⟨⟨by kernel_rfl⟩⟩
instance sz75 : SzC 75 2 := ⟨⟨by kernel_rfl⟩⟩
instance sz90 : SzC 90 1 := ⟨⟨by kernel_rfl⟩⟩
instance sz92 : SzC 92 3 := ⟨⟨by kernel_rfl⟩⟩
instance sz94 : SzC 94 5 := ⟨⟨by kernel_rfl⟩⟩
instance sz101 : SzC 101 4 := ⟨⟨by kernel_rfl⟩⟩
instance sz115 : SzC 115 1 := ⟨⟨by kernel_rfl⟩⟩
instance sz116 : SzC 116 1 := ⟨⟨by kernel_rfl⟩⟩
instance sz118 : SzC 118 8 := ⟨⟨by kernel_rfl⟩⟩
instance sz120 : SzC 120 13 := ⟨⟨by kernel_rfl⟩⟩
instance sz123 : SzC 123 1 := ⟨⟨by kernel_rfl⟩⟩
instance sz125 : SzC 125 1 := ⟨⟨by kernel_rfl⟩⟩
instance sz127 : SzC 127 3 := ⟨⟨by kernel_rfl⟩⟩
instance sz142 : SzC 142 2 := ⟨⟨by kernel_rfl⟩⟩
instance sz162 : SzC 162 27 := ⟨⟨by kernel_rfl⟩⟩
instance sz168 : SzC 168 3 := ⟨⟨by kernel_rfl⟩⟩
instance sz173 : SzC 173 4 := ⟨⟨by kernel_rfl⟩⟩
instance sz189 : SzC 189 3 := ⟨⟨by kernel_rfl⟩⟩
instance sz193 : SzC 193 4 := ⟨⟨by kernel_rfl⟩⟩
instance sz296 : SzC 296 2 := ⟨⟨by kernel_rfl⟩⟩
theorem zr42 : ZrI Tryz.prog 42 [.d (.v (.int .i64 0)), .d (.v (.int .i64 0)), .d (.v (.int .i64 0)), .d (.v (.bool false)), .zero, .zero] := ⟨by kernel_rfl⟩
theorem zr46 : ZrI Tryz.prog 46 [.d (.v (.string ByteArray.empty)), .zero, .d (.v (.int .i64 0)), .d (.v (.int .i64 0))] := ⟨by kernel_rfl⟩
theorem zr55 : ZrI Tryz.prog 55 [.d (.v (.string ByteArray.empty)), .zero, .zero, .zero, .zero] := ⟨by kernel_rfl⟩
theorem zr60 : ZrI Tryz.prog 60 [.d (.v (.int .i64 0)), .d (.v (.string ByteArray.empty)), .d (.v (.int .i64 0)), .d (.v (.int .i64 0)), .d (.v (.bool false)), .d (.v (.int .i64 0))] := ⟨by kernel_rfl⟩
theorem zr73 : ZrI Tryz.prog 73 [.d (.v (.int .i64 0)), .d (.v (.string ByteArray.empty)), .d (.v (.int .i64 0)), .d (.v (.int .i64 0)), .d (.v (.int .i64 0)), .zero, .zero, .d (.v (.int .i64 0)), .d (.v (.int .i64 0)), .d (.v (.bool false))] := ⟨by kernel_rfl⟩
theorem zr75 : ZrI Tryz.prog 75 [.d (.v (.string ByteArray.empty)), .d (.v (.int .i64 0))] := ⟨by kernel_rfl⟩
theorem zr92 : ZrI Tryz.prog 92 [.d (.v (.int .i64 0)), .d (.v (.int .i64 0)), .zero] := ⟨by kernel_rfl⟩
theorem zr94 : ZrI Tryz.prog 94 [.d (.v (.string ByteArray.empty)), .zero, .d (.v (.int .i64 0)), .d (.v (.int .i64 0)), .zero] := ⟨by kernel_rfl⟩
theorem zr101 : ZrI Tryz.prog 101 [.d (.v (.int .i64 0)), .d (.v (.int .i64 0)), .d (.v (.string ByteArray.empty)), .zero] := ⟨by kernel_rfl⟩
theorem zr118 : ZrI Tryz.prog 118 [.d (.v (.int .i64 0)), .d (.v (.bool false)), .d (.v (.int .i64 0)), .d (.v (.string ByteArray.empty)), .d (.v (.int .i64 0)), .zero, .zero, .zero] := ⟨by kernel_rfl⟩
theorem zr120 : ZrI Tryz.prog 120 [.d (.v (.int .i64 0)), .d (.v (.string ByteArray.empty)), .d (.v (.int .i64 0)), .d (.v (.bool false)), .d (.v (.bool false)), .d (.v (.int .i64 0)), .d (.v (.bool false)), .d (.v (.int .i64 0)), .d (.v (.string ByteArray.empty)), .d (.v (.int .i64 0)), .zero, .zero, .zero] := ⟨by kernel_rfl⟩
theorem zr125 : ZrI Tryz.prog 125 [.zero] := ⟨by kernel_rfl⟩
theorem zr127 : ZrI Tryz.prog 127 [.d (.v (.string ByteArray.empty)), .d (.v (.int .i64 0)), .d (.v (.int .i64 0))] := ⟨by kernel_rfl⟩
theorem zr142 : ZrI Tryz.prog 142 [.d (.v (.int .i64 0)), .d (.v (.string ByteArray.empty))] := ⟨by kernel_rfl⟩
theorem zr162 : ZrI Tryz.prog 162 [.d (.v (.string ByteArray.empty)), .zero, .zero, .zero, .zero, .d (.v (.string ByteArray.empty)), .zero, .zero, .zero, .zero, .d (.v (.string ByteArray.empty)), .zero, .d (.v (.int .i64 0)), .d (.v (.int .i64 0)), .zero, .d (.v (.string ByteArray.empty)), .zero, .d (.v (.int .i64 0)), .d (.v (.int .i64 0)), .zero, .d (.v (.int .i64 0)), .d (.v (.int .i64 0)), .zero, .d (.v (.int .i64 0)), .d (.v (.int .i64 0)), .zero, .d (.v (.int .i64 0))] := ⟨by kernel_rfl⟩
theorem zr168 : ZrI Tryz.prog 168 [.d (.v (.int .i64 0)), .d (.v (.bool false)), .d (.v (.int .i64 0))] := ⟨by kernel_rfl⟩
theorem zr173 : ZrI Tryz.prog 173 [.d (.v (.int .i64 0)), .d (.v (.int .i64 0)), .zero, .zero] := ⟨by kernel_rfl⟩
theorem zr189 : ZrI Tryz.prog 189 [.d (.v (.int .i64 0)), .d (.v (.string ByteArray.empty)), .d (.v (.int .i64 0))] := ⟨by kernel_rfl⟩
theorem zr193 : ZrI Tryz.prog 193 [.d (.v (.int .i64 0)), .d (.v (.bool false)), .d (.v (.int .i64 0)), .d (.v (.int .i64 0))] := ⟨by kernel_rfl⟩
theorem zr296 : ZrI Tryz.prog 296 [.d (.v (.int .i64 0)), .d (.v (.string ByteArray.empty))] := ⟨by kernel_rfl⟩
end Go.Proofs.YtjpdemikmdfonaaGreatDoor

namespace Go.Proofs.YtjpdemikmdfonaaGreatDoor
open Go Go.RowKit
class inductive RegN (id : Nat) (nx : outParam Nat) : Prop
 | mk : RegN id nx
instance : RegN 0 100 := .mk
instance : RegN 1 200 := .mk
instance : RegN 2 300 := .mk
instance : RegN 3 400 := .mk
instance : RegN 4 500 := .mk
instance : RegN 5 600 := .mk
instance : RegN 6 700 := .mk
instance : RegN 7 800 := .mk
instance : RegN 8 900 := .mk
instance : RegN 9 1000 := .mk
instance : RegN 10 1100 := .mk
instance : RegN 11 1200 := .mk
instance : RegN 12 1300 := .mk
instance : RegN 13 1400 := .mk
instance : RegN 14 1500 := .mk
instance : RegN 15 1600 := .mk
instance : RegN 16 1700 := .mk
instance : RegN 17 1800 := .mk
instance : RegN 18 1900 := .mk
instance : RegN 19 2000 := .mk
instance : RegN 20 2100 := .mk
instance : RegN 21 2200 := .mk
instance : RegN 22 2300 := .mk
instance : RegN 23 2400 := .mk
instance : RegN 24 2500 := .mk
instance : RegN 25 2600 := .mk
instance : RegN 26 2700 := .mk
instance : RegN 27 2800 := .mk
instance : RegN 28 2900 := .mk
instance : RegN 29 3000 := .mk
instance : RegN 30 3100 := .mk
instance : RegN 31 3200 := .mk
instance : RegN 32 3300 := .mk
instance : RegN 33 3400 := .mk
instance : RegN 34 3500 := .mk
instance : RegN 35 3600 := .mk
instance : RegN 36 3700 := .mk
instance : RegN 37 3800 := .mk
instance : RegN 38 3900 := .mk
instance : RegN 39 4000 := .mk
instance : RegN 40 4100 := .mk
instance : RegN 41 4200 := .mk
instance : RegN 42 4300 := .mk
instance : RegN 43 4400 := .mk
instance : RegN 44 4500 := .mk
instance : RegN 45 4600 := .mk
instance : RegN 46 4700 := .mk
instance : RegN 47 4800 := .mk
instance : RegN 48 4900 := .mk
instance : RegN 49 5000 := .mk
instance : RegN 50 5100 := .mk
instance : RegN 51 5200 := .mk
instance : RegN 52 5300 := .mk
instance : RegN 53 5400 := .mk
instance : RegN 54 5500 := .mk
instance : RegN 55 5600 := .mk
instance : RegN 56 5700 := .mk
instance : RegN 57 5800 := .mk
instance : RegN 58 5900 := .mk
instance : RegN 59 6000 := .mk
instance : RegN 60 6100 := .mk
variable {N : Nat} {dr : Bool} {cs : List Code} {R : AX → St → Prop} {id : Nat} {l : List Oper} {tm : List (Nat × AV)} {bo : BO} {nx nx' : Nat}
theorem rg [RegN id nx'] (hn : Nat.ble nx nx' = true) (h : W Tryz.prog lendS N ⟨l⟩ dr cs R 0 l tm bo nx' []) : JL Tryz.prog N (.region id ⟨l⟩ dr :: cs) ⟨tm, clean bo, nx⟩ R := JL.regionW nx' mo hn h
theorem rgn (id nx' : Nat) (hn : Nat.ble nx nx' = true) (h : W Tryz.prog lendS N ⟨l⟩ dr cs R 0 l tm bo nx' []) : JL Tryz.prog N (.region id ⟨l⟩ dr :: cs) ⟨tm, clean bo, nx⟩ R := JL.regionW nx' mo hn h
variable {ops : Array Oper} {i : Nat} {os : List Oper} {ns : List Note} {d : Nat} {pos : String} {ty : TypeId} {af : Array Edge} {lend : FuncId → Bool}
theorem W.fa {s : TypeId} {x : Operand} {f off : Nat} {l : Option Nat} {c c' : C} [hf : FdC s f off l] (hd : Nat.blt d N = true) (hx : (ev (lk tm) x).bind slot1 = some c) (ha : addOff off c = some c') (h : W Tryz.prog lend N ops dr cs R (i + 1) os ((d, .one false [c']) :: tm) bo nx (ns ++ [⟨opKeys (lk tm) (lko bo) ⟨some d, .fieldAddr s x f, ty, pos, af, none⟩, []⟩])) : W Tryz.prog lend N ops dr cs R i (⟨some d, .fieldAddr s x f, ty, pos, af, none⟩ :: os) tm bo nx ns := W.fieldAddr hd hf.h hx ha h
theorem W.ld {t : TypeId} {x : Operand} {c c' : C} {cs' : List C} {off : Nat} [hl : LdC t] (hd : Nat.blt d N = true) (hx : (ev (lk tm) x).bind slot1 = some c) (hb : behind (lko bo) c = some (cs', off)) (hc : cs'[off]? = some c') (h : W Tryz.prog lend N ops dr cs R (i + 1) os ((d, .one false [c']) :: tm) bo nx (ns ++ [⟨opKeys (lk tm) (lko bo) ⟨some d, .load t x, ty, pos, af, none⟩, []⟩])) : W Tryz.prog lend N ops dr cs R i (⟨some d, .load t x, ty, pos, af, none⟩ :: os) tm bo nx ns := W.load hd hl.h hx hb hc h
theorem W.st {t : TypeId} {x y : Operand} {q : Key} {off n : Nat} {ty0 : TypeId} {vs cs1 cs2 : List C} [hs : SzC t n] (hx : (ev (lk tm) x).bind slot1 = some (.ptr q off)) (hy : (ev (lk tm) y).bind cellsOfAV = some vs) (hb : lko bo q = some (.st ty0 cs1)) (hu : putC off n vs cs1 = some cs2)
    (h : W Tryz.prog lend N ops dr cs R (i + 1) os tm ((q, some (.st ty0 cs2)) :: bo) nx (ns ++ [⟨opKeys (lk tm) (lko bo) ⟨none, .store t x y, ty, pos, af, none⟩, [q]⟩])) : W Tryz.prog lend N ops dr cs R i (⟨none, .store t x y, ty, pos, af, none⟩ :: os) tm bo nx ns := W.store hs.h hx hy hb hu h
end Go.Proofs.YtjpdemikmdfonaaGreatDoor

namespace Go.Proofs.YtjpdemikmdfonaaGreatDoor
open Go Go.RowKit
set_option linter.unusedSimpArgs false
set_option linter.unusedVariables false
def mEnts : Nat → List ByteArray → List MapEntry
 | _, [] => []
 | i, s :: r => { key := .string s, val := .bool true, born := i } :: mEnts (i + 1) r
def hasS (l : List ByteArray) (s : ByteArray) : Bool := l.any fun m => decide (m = s)
def addS (l : List ByteArray) (s : ByteArray) : List ByteArray := if hasS l s = true then l else l ++ [s]
theorem mEnts_app : ∀ (l : List ByteArray) (i : Nat) (s : ByteArray), mEnts i (l ++ [s]) = mEnts i l ++ [{ key := .string s, val := .bool true, born := i + l.length }]
 | [], i, s => rfl
 | x :: r, i, s => by
  show _ :: mEnts (i + 1) (r ++ [s]) = _ :: (mEnts (i + 1) r ++ _)
  rw [mEnts_app r (i + 1) s]
  congr 4
  simp only [List.length_cons]; omega
theorem bs_eqb (a b : ByteArray) : (a == b) = decide (a = b) := by
 obtain ⟨a⟩ := a
 obtain ⟨b⟩ := b
 show (a == b) = _
 by_cases h : a = b
 ·subst h; simp
 ·rw [decide_eq_false (fun e => h (by cases e; rfl))]
  simpa using h
theorem find_mEnts (s : ByteArray) : ∀ (l : List ByteArray) (i j : Nat), (hasS l s = false ∧ Instr.findNow .string (.string s) (mEnts i l) j = some none) ∨ (hasS l s = true ∧ ∃ k e, (mEnts i l)[k]? = some e ∧ e.key = .string s ∧ e.val = .bool true ∧ Instr.findNow .string (.string s) (mEnts i l) j = some (some (j + k, .bool true)))
 | [], i, j => .inl ⟨rfl, rfl⟩
 | x :: r, i, j => by
  have h1 : Instr.sameNow .string (.string s) (.string x) = some (decide (s = x)) := by
   show some (s == x) = _
   rw [bs_eqb]
  by_cases e : x = s
  ·subst e
   refine .inr ⟨by simp [hasS], 0, _, rfl, rfl, rfl, ?_⟩
   show (match Instr.sameNow .string (.string x) (.string x) with | some true => some (some (j, Value.bool true)) | some false => Instr.findNow .string (.string x) (mEnts (i + 1) r) (j + 1) | none => none) = _
   rw [h1, decide_eq_true rfl]; rfl
  ·have h2 : Instr.findNow .string (.string s) (mEnts i (x :: r)) j = Instr.findNow .string (.string s) (mEnts (i + 1) r) (j + 1) := by
     show (match Instr.sameNow .string (.string s) (.string x) with | some true => some (some (j, Value.bool true)) | some false => Instr.findNow .string (.string s) (mEnts (i + 1) r) (j + 1) | none => none) = _
     rw [h1, decide_eq_false (fun h => e h.symm)]
   have h3 : hasS (x :: r) s = hasS r s := by
    show (decide (x = s) || hasS r s) = _
    rw [decide_eq_false e]; rfl
   rcases find_mEnts s r (i + 1) (j + 1) with ⟨g1, g2⟩ | ⟨g1, k, e', g2, g3, g4, g5⟩
   ·exact .inl ⟨h3.trans g1, h2.trans g2⟩
   ·exact .inr ⟨h3.trans g1, k + 1, e', g2, g3, g4, by rw [h2, g5, show j + 1 + k = j + (k + 1) by omega]⟩
inductive MpI (P : Program) (t kt et : TypeId) : Prop | mk (h : P.underlying t = some (.map kt et)) (hk : P.underlying kt = some .string) (hz : semVal P (zeroValue et) = some (.bool false))
theorem sv_check1 {P : Program} {kt : TypeId} {s : ByteArray} {em : Bool} (n : Nat) (hk : P.underlying kt = some .string) : semVal P (Instr.checkKey em (n + 1) kt (.string s)) = some () := by
 simp only [Instr.checkKey]
 rw [semVal_bind, semVal_underlying hk]
 rfl
theorem sv_check {P : Program} {kt : TypeId} {s : ByteArray} {em : Bool} (hk : P.underlying kt = some .string) : semVal P (Instr.checkKey em 10000 kt (.string s)) = some () := sv_check1 9999 hk
theorem sv_find {P : Program} {kt : TypeId} {s : ByteArray} {es : List MapEntry} {r : Option (Nat × Value)} (hk : P.underlying kt = some .string) (h : Instr.findNow .string (.string s) es 0 = some r) : semVal P (Instr.findKey kt (.string s) es) = some r := by
 unfold Instr.findKey
 rw [semVal_bind, semVal_underlying hk]
 show semVal P (match Instr.findNow .string (.string s) es 0 with | some r => pure r | none => _) = _
 rw [h]; rfl
theorem mapFind_no {P : Program} {t kt et : TypeId} (hm : MpI P t kt et) {em : Bool} {s : ByteArray} {l : List ByteArray} (h : hasS l s = false) : mapFind P t em (.string s) (mEnts 0 l) = some (et, none) := by
 obtain ⟨h1, h2, h3⟩ := hm
 rcases find_mEnts s l 0 0 with ⟨g1, g2⟩ | ⟨g1, _⟩
 ·unfold mapFind
  simp only [h1, sv_check h2, sv_find h2 g2]
 ·rw [h] at g1; cases g1
theorem mapFind_yes {P : Program} {t kt et : TypeId} (hm : MpI P t kt et) {em : Bool} {s : ByteArray} {l : List ByteArray} (h : hasS l s = true) : ∃ k e, (mEnts 0 l)[k]? = some e ∧ e.key = .string s ∧ e.val = .bool true ∧ mapFind P t em (.string s) (mEnts 0 l) = some (et, some (k, .bool true)) := by
 obtain ⟨h1, h2, h3⟩ := hm
 rcases find_mEnts s l 0 0 with ⟨g1, _⟩ | ⟨g1, k, e, g2, g3, g4, g5⟩
 ·rw [h] at g1; cases g1
 ·refine ⟨k, e, g2, g3, g4, ?_⟩
  unfold mapFind
  rw [Nat.zero_add] at g5
  simp only [h1, sv_check h2, sv_find h2 g5]
section
variable {P : Program} {lend : FuncId → Bool} {N : Nat} {ops : Array Oper} {dr : Bool} {cs : List Code} {R : AX → St → Prop} {i : Nat} {os : List Oper} {tm : List (Nat × AV)} {bo : BO} {nx : Nat} {ns : List Note} {d : Nat} {pos : String} {ty : TypeId} {af : Array Edge}
theorem W.mapNew {t : TypeId} (k : Nat) (hd : Nat.blt d N = true) (hk : i * 64 = k) (h : W P lend N ops dr cs R (i + 1) os ((d, .one false [.mp (k, nx)]) :: tm) (((k, nx), some (.mp (mEnts 0 []).toArray ([] : List ByteArray).length)) :: bo) nx (ns ++ [⟨opKeys (lk tm) (lko bo) ⟨some d, .makeMap t none, ty, pos, af, none⟩, [(k, nx)]⟩])) : W P lend N ops dr cs R i (⟨some d, .makeMap t none, ty, pos, af, none⟩ :: os) tm bo nx ns := by
 subst hk
 exact W.up (av := .one false [.mp (i * 64, nx)]) (up := [((i * 64, nx), some (.mp (mEnts 0 []).toArray ([] : List ByteArray).length))]) hd rfl h
theorem W.mapGet {t kt et : TypeId} {x ix : Operand} {q : Key} {l : List ByteArray} {s : ByteArray} (hm : MpI P t kt et) (hd : Nat.blt d N = true) (hx : (ev (lk tm) x).bind slot1 = some (.mp q)) (hi : ev (lk tm) ix = some (.one false [.d (.v (.string s))])) (hq : lko bo q = some (.mp (mEnts 0 l).toArray l.length))
    (h : W P lend N ops dr cs R (i + 1) os ((d, .one false [.d (.v (.bool (hasS l s)))]) :: tm) bo nx (ns ++ [⟨opKeys (lk tm) (lko bo) ⟨some d, .lookup t x ix false, ty, pos, af, none⟩, []⟩])) : W P lend N ops dr cs R i (⟨some d, .lookup t x ix false, ty, pos, af, none⟩ :: os) tm bo nx ns := by
 refine W.val hd ?_ h
 simp only [effOf]
 unfold effLookup
 rw [ev_only (x := x) (by simp [Op.operands]), hx, ev_only (x := ix) (by simp [Op.operands]), hi]
 simp only [Option.bind_some, conV]
 rw [own_only (by rfl) (by simp [Op.operands]) hx (List.mem_singleton.2 rfl : q ∈ keysC (.mp q)), hq]
 simp only []
 cases hh : hasS l s with
 | false =>
  rw [mapFind_no hm hh]
  obtain ⟨h1, h2, h3⟩ := hm
  simp only [h3, Option.map_some]
  rfl
 | true =>
  obtain ⟨k, e, _, _, _, g⟩ := mapFind_yes hm (em := (mEnts 0 l).toArray.isEmpty) hh
  rw [g]
  rfl
theorem W.mapPut {t kt et : TypeId} {x ix y : Operand} {q : Key} {l : List ByteArray} {s : ByteArray} (hm : MpI P t kt et) (hx : (ev (lk tm) x).bind slot1 = some (.mp q)) (hi : ev (lk tm) ix = some (.one false [.d (.v (.string s))])) (hy : ev (lk tm) y = some (.one false [.d (.v (.bool true))])) (hq : lko bo q = some (.mp (mEnts 0 l).toArray l.length))
    (h : W P lend N ops dr cs R (i + 1) os tm ((q, some (.mp (mEnts 0 (addS l s)).toArray (addS l s).length)) :: bo) nx (ns ++ [⟨opKeys (lk tm) (lko bo) ⟨none, .mapUpdate t x ix y, ty, pos, af, none⟩, [q]⟩])) : W P lend N ops dr cs R i (⟨none, .mapUpdate t x ix y, ty, pos, af, none⟩ :: os) tm bo nx ns := by
 refine W.up0 (av := .un) (up := [(q, some (.mp (mEnts 0 (addS l s)).toArray (addS l s).length))]) ?_ h
 simp only [effOf]
 unfold effMapUpdate
 rw [ev_only (x := x) (by simp [Op.operands]), hx, ev_only (x := ix) (by simp [Op.operands]), hi, ev_only (x := y) (by simp [Op.operands]), hy]
 simp only [Option.bind_some, conV]
 rw [own_only (by rfl) (by simp [Op.operands]) hx (List.mem_singleton.2 rfl : q ∈ keysC (.mp q)), hq]
 simp only []
 cases hh : hasS l s with
 | false =>
  rw [mapFind_no hm hh]
  unfold addS
  rw [hh, if_neg (by decide), mEnts_app, List.length_append]
  simp
 | true =>
  obtain ⟨k, e, g1, g2, g3, g⟩ := mapFind_yes hm (em := false) hh
  rw [g]
  unfold addS
  rw [hh, if_pos rfl]
  have hsb : Instr.sameBits 10000 (((mEnts 0 l).toArray[k]?.map (·.key)).getD (.string s)) (.string s) = true := by
   rw [List.getElem?_toArray, g1]
   simp only [Option.map_some, Option.getD_some, g2]
   show (s == s) = true
   rw [bs_eqb]; exact decide_eq_true rfl
  simp only [hsb, if_true]
  have hmod : (mEnts 0 l).toArray.modify k (fun e => { e with key := .string s, val := .bool true }) = (mEnts 0 l).toArray := by
   refine Array.ext_getElem? fun j => ?_
   rw [Array.getElem?_modify]
   split
   ·rename_i hj
    subst hj
    rw [List.getElem?_toArray, g1]
    obtain ⟨ek, ev', eb⟩ := e
    cases g2; cases g3; rfl
   ·rfl
  rw [hmod]
theorem W.negI {t : TypeId} {x : Operand} {k : IntKind} {a : Int} (hd : Nat.blt d N = true) (hx : ev (lk tm) x = some (.one false [.d (.v (.int k a))])) (h : W P lend N ops dr cs R (i + 1) os ((d, .one false [.d (.v (.int k (k.wrap (0 - a))))]) :: tm) bo nx (ns ++ [⟨opKeys (lk tm) (lko bo) ⟨some d, .unOp .neg t x, ty, pos, af, none⟩, []⟩])) : W P lend N ops dr cs R i (⟨some d, .unOp .neg t x, ty, pos, af, none⟩ :: os) tm bo nx ns :=
 W.plain hd (fun lt hlt => plain1 rfl ((hlt x (by simp [Op.operands])).trans hx) (v := .int k (k.wrap (0 - a))) (by simp only [Op.unary, Op.intArith]; rfl) rfl) (fun _ _ _ _ _ _ _ h => h) h
theorem W.slss {t ty' : TypeId} {x y : Operand} {a b : ByteArray} (hd : Nat.blt d N = true) (hx : ev (lk tm) x = some (.one false [.d (.v (.string a))])) (hy : ev (lk tm) y = some (.one false [.d (.v (.string b))])) (h : W P lend N ops dr cs R (i + 1) os ((d, .one false [.d (.v (.bool (lessS a b)))]) :: tm) bo nx (ns ++ [⟨opKeys (lk tm) (lko bo) ⟨some d, .binOp .lss t x y ty', ty, pos, af, none⟩, []⟩])) : W P lend N ops dr cs R i (⟨some d, .binOp .lss t x y ty', ty, pos, af, none⟩ :: os) tm bo nx ns :=
 W.plain hd (fun lt hlt => plain2 rfl ((hlt x (by simp [Op.operands])).trans hx) ((hlt y (by simp [Op.operands])).trans hy) (by unfold eqGuard; rfl) (by
  simp only [binOp, Op.stringOp]; rfl) rfl) (fun _ _ _ _ _ _ _ h => orE_some h) h
theorem W.sgtr {t ty' : TypeId} {x y : Operand} {a b : ByteArray} (hd : Nat.blt d N = true) (hx : ev (lk tm) x = some (.one false [.d (.v (.string a))])) (hy : ev (lk tm) y = some (.one false [.d (.v (.string b))])) (h : W P lend N ops dr cs R (i + 1) os ((d, .one false [.d (.v (.bool (!(lessS a b || decide (a = b)))))]) :: tm) bo nx (ns ++ [⟨opKeys (lk tm) (lko bo) ⟨some d, .binOp .gtr t x y ty', ty, pos, af, none⟩, []⟩])) : W P lend N ops dr cs R i (⟨some d, .binOp .gtr t x y ty', ty, pos, af, none⟩ :: os) tm bo nx ns :=
 W.plain hd (fun lt hlt => plain2 rfl ((hlt x (by simp [Op.operands])).trans hx) ((hlt y (by simp [Op.operands])).trans hy) (by unfold eqGuard; rfl) (by
  simp only [binOp, Op.stringOp, sv_seq]; rfl) rfl) (fun _ _ _ _ _ _ _ h => orE_some h) h
theorem boxTo_mpw {lb : Key → Option Box} {f : Key → Key} {l l' : List ByteArray} (h : l' = l) : boxTo lb f (.mp (mEnts 0 l).toArray l.length) (.mp (mEnts 0 l').toArray l'.length) := by subst h; rfl
end
theorem mp_sb : MpI Tryz.prog 56 9 4 := ⟨by kernel_rfl, by kernel_rfl, by kernel_rfl⟩
end Go.Proofs.YtjpdemikmdfonaaGreatDoor

