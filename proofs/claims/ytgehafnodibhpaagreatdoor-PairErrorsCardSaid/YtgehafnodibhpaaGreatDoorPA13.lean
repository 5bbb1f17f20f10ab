/- Rules of runs and contracts of functions, for the claims of one seat. -/
import Derived.Test.YtgehafnodibhpaaGreatDoorPA11
import Derived.Test.YtgehafnodibhpaaGreatDoorPA12
namespace Go.Proofs.YtgehafnodibhpaaGreatDoor
open Go Go.RowKit
set_option linter.unusedSimpArgs false
def nilSy : SymD := ⟨0, ByteArray.empty⟩
def nilRa : RawD := ⟨0, ByteArray.empty⟩
def nilMs : MsgD := ⟨0, ByteArray.empty, 0⟩
def nilEd : EdgeD := ⟨0, false, 0, 0⟩
def nilAu : AutD := ⟨0, 0, []⟩
def nilSe : SesD := ⟨ByteArray.empty, [], nilAu⟩
def nilCa : CallD := ⟨ByteArray.empty, 0, 0⟩
def nilTo : TopD := ⟨ByteArray.empty, 0⟩
theorem gSyms {xs : List (SymD)} {n : Int} (h : 0 ≤ n ∧ n < xs.length) : 0 ≤ n ∧ (dSyms xs)[n.toNat]? = some (symRow (xs.getD n.toNat nilSy)) := rowsG nilSy h
theorem gSymsN {xs : List (SymD)} {k : Nat} (h : k < xs.length) : 0 ≤ (k : Int) ∧ (dSyms xs)[(k : Int).toNat]? = some (symRow (xs.getD k nilSy)) := ⟨Int.natCast_nonneg k, rowsN nilSy h⟩
theorem zSyms {xs : List (SymD)} {n : Int} (h : 0 ≤ n ∧ n < xs.length) : (dSyms xs)[n.toNat]? = some (symRow (xs.getD n.toNat nilSy)) := rowsZ nilSy h
theorem lSyms {xs : List (SymD)} : (dSyms xs).length = xs.length := List.length_map _
theorem wSyms {xs : List (SymD)} {j : Nat} {x : SymD} : (dSyms xs).set j (symRow x) = dSyms (xs.set j x) := List.map_set.symm
theorem gRaws {xs : List (RawD)} {n : Int} (h : 0 ≤ n ∧ n < xs.length) : 0 ≤ n ∧ (dRaws xs)[n.toNat]? = some (rawRow (xs.getD n.toNat nilRa)) := rowsG nilRa h
theorem gRawsN {xs : List (RawD)} {k : Nat} (h : k < xs.length) : 0 ≤ (k : Int) ∧ (dRaws xs)[(k : Int).toNat]? = some (rawRow (xs.getD k nilRa)) := ⟨Int.natCast_nonneg k, rowsN nilRa h⟩
theorem zRaws {xs : List (RawD)} {n : Int} (h : 0 ≤ n ∧ n < xs.length) : (dRaws xs)[n.toNat]? = some (rawRow (xs.getD n.toNat nilRa)) := rowsZ nilRa h
theorem lRaws {xs : List (RawD)} : (dRaws xs).length = xs.length := List.length_map _
theorem wRaws {xs : List (RawD)} {j : Nat} {x : RawD} : (dRaws xs).set j (rawRow x) = dRaws (xs.set j x) := List.map_set.symm
theorem gMems {xs : List (MemD)} {n : Int} (h : 0 ≤ n ∧ n < xs.length) : 0 ≤ n ∧ (dMems xs)[n.toNat]? = some (memRow (xs.getD n.toNat nilM0)) := rowsG nilM0 h
theorem gMemsN {xs : List (MemD)} {k : Nat} (h : k < xs.length) : 0 ≤ (k : Int) ∧ (dMems xs)[(k : Int).toNat]? = some (memRow (xs.getD k nilM0)) := ⟨Int.natCast_nonneg k, rowsN nilM0 h⟩
theorem zMems {xs : List (MemD)} {n : Int} (h : 0 ≤ n ∧ n < xs.length) : (dMems xs)[n.toNat]? = some (memRow (xs.getD n.toNat nilM0)) := rowsZ nilM0 h
theorem lMems {xs : List (MemD)} : (dMems xs).length = xs.length := List.length_map _
theorem wMems {xs : List (MemD)} {j : Nat} {x : MemD} : (dMems xs).set j (memRow x) = dMems (xs.set j x) := List.map_set.symm
theorem gTyps {xs : List (TypD)} {n : Int} (h : 0 ≤ n ∧ n < xs.length) : 0 ≤ n ∧ (dTyps xs)[n.toNat]? = some (typRow (xs.getD n.toNat nilT0)) := rowsG nilT0 h
theorem gTypsN {xs : List (TypD)} {k : Nat} (h : k < xs.length) : 0 ≤ (k : Int) ∧ (dTyps xs)[(k : Int).toNat]? = some (typRow (xs.getD k nilT0)) := ⟨Int.natCast_nonneg k, rowsN nilT0 h⟩
theorem zTyps {xs : List (TypD)} {n : Int} (h : 0 ≤ n ∧ n < xs.length) : (dTyps xs)[n.toNat]? = some (typRow (xs.getD n.toNat nilT0)) := rowsZ nilT0 h
theorem lTyps {xs : List (TypD)} : (dTyps xs).length = xs.length := List.length_map _
theorem wTyps {xs : List (TypD)} {j : Nat} {x : TypD} : (dTyps xs).set j (typRow x) = dTyps (xs.set j x) := List.map_set.symm
theorem gMsgs {xs : List (MsgD)} {n : Int} (h : 0 ≤ n ∧ n < xs.length) : 0 ≤ n ∧ (dMsgs xs)[n.toNat]? = some (msgRow (xs.getD n.toNat nilMs)) := rowsG nilMs h
theorem gMsgsN {xs : List (MsgD)} {k : Nat} (h : k < xs.length) : 0 ≤ (k : Int) ∧ (dMsgs xs)[(k : Int).toNat]? = some (msgRow (xs.getD k nilMs)) := ⟨Int.natCast_nonneg k, rowsN nilMs h⟩
theorem zMsgs {xs : List (MsgD)} {n : Int} (h : 0 ≤ n ∧ n < xs.length) : (dMsgs xs)[n.toNat]? = some (msgRow (xs.getD n.toNat nilMs)) := rowsZ nilMs h
theorem lMsgs {xs : List (MsgD)} : (dMsgs xs).length = xs.length := List.length_map _
theorem wMsgs {xs : List (MsgD)} {j : Nat} {x : MsgD} : (dMsgs xs).set j (msgRow x) = dMsgs (xs.set j x) := List.map_set.symm
theorem gEdges {xs : List (EdgeD)} {n : Int} (h : 0 ≤ n ∧ n < xs.length) : 0 ≤ n ∧ (dEdges xs)[n.toNat]? = some (edgeRow (xs.getD n.toNat nilEd)) := rowsG nilEd h
theorem gEdgesN {xs : List (EdgeD)} {k : Nat} (h : k < xs.length) : 0 ≤ (k : Int) ∧ (dEdges xs)[(k : Int).toNat]? = some (edgeRow (xs.getD k nilEd)) := ⟨Int.natCast_nonneg k, rowsN nilEd h⟩
theorem zEdges {xs : List (EdgeD)} {n : Int} (h : 0 ≤ n ∧ n < xs.length) : (dEdges xs)[n.toNat]? = some (edgeRow (xs.getD n.toNat nilEd)) := rowsZ nilEd h
theorem lEdges {xs : List (EdgeD)} : (dEdges xs).length = xs.length := List.length_map _
theorem aEdges {xs ys : List (EdgeD)} : dEdges xs ++ dEdges ys = dEdges (xs ++ ys) := List.map_append.symm
theorem sEdges {xs : List (EdgeD)} {x : EdgeD} : dEdges xs ++ [edgeRow x] = dEdges (xs ++ [x]) := aEdges (ys := [x])
theorem wEdges {xs : List (EdgeD)} {j : Nat} {x : EdgeD} : (dEdges xs).set j (edgeRow x) = dEdges (xs.set j x) := List.map_set.symm
theorem gSess {xs : List (SesD)} {n : Int} (h : 0 ≤ n ∧ n < xs.length) : 0 ≤ n ∧ (dSess xs)[n.toNat]? = some (sesRow (xs.getD n.toNat nilSe)) := rowsG nilSe h
theorem gSessN {xs : List (SesD)} {k : Nat} (h : k < xs.length) : 0 ≤ (k : Int) ∧ (dSess xs)[(k : Int).toNat]? = some (sesRow (xs.getD k nilSe)) := ⟨Int.natCast_nonneg k, rowsN nilSe h⟩
theorem zSess {xs : List (SesD)} {n : Int} (h : 0 ≤ n ∧ n < xs.length) : (dSess xs)[n.toNat]? = some (sesRow (xs.getD n.toNat nilSe)) := rowsZ nilSe h
theorem lSess {xs : List (SesD)} : (dSess xs).length = xs.length := List.length_map _
theorem nSess {xs : List (SesD)} {a b : Nat} : ((dSess xs).drop a).take b = dSess ((xs.drop a).take b) := by unfold dSess; rw [List.map_take, List.map_drop]
theorem wSess {xs : List (SesD)} {j : Nat} {x : SesD} : (dSess xs).set j (sesRow x) = dSess (xs.set j x) := List.map_set.symm
theorem gCalls {xs : List (CallD)} {n : Int} (h : 0 ≤ n ∧ n < xs.length) : 0 ≤ n ∧ (dCalls xs)[n.toNat]? = some (callRow (xs.getD n.toNat nilCa)) := rowsG nilCa h
theorem gCallsN {xs : List (CallD)} {k : Nat} (h : k < xs.length) : 0 ≤ (k : Int) ∧ (dCalls xs)[(k : Int).toNat]? = some (callRow (xs.getD k nilCa)) := ⟨Int.natCast_nonneg k, rowsN nilCa h⟩
theorem zCalls {xs : List (CallD)} {n : Int} (h : 0 ≤ n ∧ n < xs.length) : (dCalls xs)[n.toNat]? = some (callRow (xs.getD n.toNat nilCa)) := rowsZ nilCa h
theorem lCalls {xs : List (CallD)} : (dCalls xs).length = xs.length := List.length_map _
theorem wCalls {xs : List (CallD)} {j : Nat} {x : CallD} : (dCalls xs).set j (callRow x) = dCalls (xs.set j x) := List.map_set.symm
theorem gTops {xs : List (TopD)} {n : Int} (h : 0 ≤ n ∧ n < xs.length) : 0 ≤ n ∧ (dTops xs)[n.toNat]? = some (topRow (xs.getD n.toNat nilTo)) := rowsG nilTo h
theorem gTopsN {xs : List (TopD)} {k : Nat} (h : k < xs.length) : 0 ≤ (k : Int) ∧ (dTops xs)[(k : Int).toNat]? = some (topRow (xs.getD k nilTo)) := ⟨Int.natCast_nonneg k, rowsN nilTo h⟩
theorem zTops {xs : List (TopD)} {n : Int} (h : 0 ≤ n ∧ n < xs.length) : (dTops xs)[n.toNat]? = some (topRow (xs.getD n.toNat nilTo)) := rowsZ nilTo h
theorem lTops {xs : List (TopD)} : (dTops xs).length = xs.length := List.length_map _
theorem wTops {xs : List (TopD)} {j : Nat} {x : TopD} : (dTops xs).set j (topRow x) = dTops (xs.set j x) := List.map_set.symm
theorem gStrs {xs : List (ByteArray)} {n : Int} (h : 0 ≤ n ∧ n < xs.length) : 0 ≤ n ∧ (dStrs xs)[n.toNat]? = some ([.v (.string (xs.getD n.toNat ByteArray.empty))]) := rowsG ByteArray.empty h
theorem gStrsN {xs : List (ByteArray)} {k : Nat} (h : k < xs.length) : 0 ≤ (k : Int) ∧ (dStrs xs)[(k : Int).toNat]? = some ([.v (.string (xs.getD k ByteArray.empty))]) := ⟨Int.natCast_nonneg k, rowsN ByteArray.empty h⟩
theorem zStrs {xs : List (ByteArray)} {n : Int} (h : 0 ≤ n ∧ n < xs.length) : (dStrs xs)[n.toNat]? = some ([.v (.string (xs.getD n.toNat ByteArray.empty))]) := rowsZ ByteArray.empty h
theorem lStrs {xs : List (ByteArray)} : (dStrs xs).length = xs.length := List.length_map _
theorem aStrs {xs ys : List (ByteArray)} : dStrs xs ++ dStrs ys = dStrs (xs ++ ys) := List.map_append.symm
theorem sStrs {xs : List (ByteArray)} {x : ByteArray} : dStrs xs ++ [[.v (.string x)]] = dStrs (xs ++ [x]) := aStrs (ys := [x])
theorem oStrs {x : ByteArray} : [[.v (.string x)]] = dStrs [x] := rfl
theorem wStrs {xs : List (ByteArray)} {j : Nat} {x : ByteArray} : (dStrs xs).set j ([.v (.string x)]) = dStrs (xs.set j x) := List.map_set.symm
theorem gVals {xs : List (ValD)} {n : Int} (h : 0 ≤ n ∧ n < xs.length) : 0 ≤ n ∧ (dVals xs)[n.toNat]? = some (valRow1 (xs.getD n.toNat nilV)) := by simp only [dVals_eq]; exact rowsG nilV h
theorem gValsN {xs : List (ValD)} {k : Nat} (h : k < xs.length) : 0 ≤ (k : Int) ∧ (dVals xs)[(k : Int).toNat]? = some (valRow1 (xs.getD k nilV)) := by simp only [dVals_eq]; exact ⟨Int.natCast_nonneg k, rowsN nilV h⟩
theorem zVals {xs : List (ValD)} {n : Int} (h : 0 ≤ n ∧ n < xs.length) : (dVals xs)[n.toNat]? = some (valRow1 (xs.getD n.toNat nilV)) := by simp only [dVals_eq]; exact rowsZ nilV h
theorem lVals {xs : List (ValD)} : (dVals xs).length = xs.length := by simp only [dVals_eq]; exact List.length_map _
theorem wVals {xs : List (ValD)} {j : Nat} {x : ValD} : (dVals xs).set j (valRow1 x) = dVals (xs.set j x) := by simp only [dVals_eq]; exact List.map_set.symm
theorem sEdgesC {xs : List EdgeD} {a : Int} {b : Bool} {c d : Int} : dEdges xs ++ [[.v (.int .i64 a), .v (.bool b), .v (.int .i64 c), .v (.int .i64 d)]] = dEdges (xs ++ [⟨a, b, c, d⟩]) := sEdges (x := ⟨a, b, c, d⟩)
end Go.Proofs.YtgehafnodibhpaaGreatDoor

namespace Go.Proofs.YtgehafnodibhpaaGreatDoor
open Go Go.RowKit
class FdC (s : TypeId) (f : Nat) (off : outParam Nat) (l : outParam (Option Nat)) : Prop where
 h : FdI Tryz.prog s f off l
class LdC (t : TypeId) : Prop where
 h : LdI Tryz.prog t none
class LdA (t : TypeId) (n : Nat) : Prop where
 h : LdI Tryz.prog t (some n)
class SzC (t : TypeId) (n : outParam Nat) : Prop where
 h : SzI Tryz.prog t n
class BoC (g : FuncId) : Prop where
 h : BoI Tryz.prog g
instance bo4 : BoC 4 := ⟨⟨by kernel_rfl⟩⟩
instance bo5 : BoC 5 := ⟨⟨by kernel_rfl⟩⟩
instance bo6 : BoC 6 := ⟨⟨by kernel_rfl⟩⟩
instance bo7 : BoC 7 := ⟨⟨by kernel_rfl⟩⟩
instance bo8 : BoC 8 := ⟨⟨by kernel_rfl⟩⟩
instance bo9 : BoC 9 := ⟨⟨by kernel_rfl⟩⟩
instance bo10 : BoC 10 := ⟨⟨by kernel_rfl⟩⟩
instance bo11 : BoC 11 := ⟨⟨by kernel_rfl⟩⟩
instance bo12 : BoC 12 := ⟨⟨by kernel_rfl⟩⟩
instance bo13 : BoC 13 := ⟨⟨by kernel_rfl⟩⟩
instance bo14 : BoC 14 := ⟨⟨by kernel_rfl⟩⟩
instance bo15 : BoC 15 := ⟨⟨by kernel_rfl⟩⟩
instance bo16 : BoC 16 := ⟨⟨by kernel_rfl⟩⟩
instance bo17 : BoC 17 := ⟨⟨by kernel_rfl⟩⟩
instance bo18 : BoC 18 := ⟨⟨by kernel_rfl⟩⟩
instance bo21 : BoC 21 := ⟨⟨by kernel_rfl⟩⟩
instance bo22 : BoC 22 := ⟨⟨by kernel_rfl⟩⟩
instance bo23 : BoC 23 := ⟨⟨by kernel_rfl⟩⟩
instance bo24 : BoC 24 := ⟨⟨by kernel_rfl⟩⟩
instance bo25 : BoC 25 := ⟨⟨by kernel_rfl⟩⟩
instance bo26 : BoC 26 := ⟨⟨by kernel_rfl⟩⟩
instance bo27 : BoC 27 := ⟨⟨by kernel_rfl⟩⟩
instance bo28 : BoC 28 := ⟨⟨by kernel_rfl⟩⟩
instance bo29 : BoC 29 := ⟨⟨by kernel_rfl⟩⟩
instance bo30 : BoC 30 := ⟨⟨by kernel_rfl⟩⟩
instance bo31 : BoC 31 := ⟨⟨by kernel_rfl⟩⟩
instance bo32 : BoC 32 := ⟨⟨by kernel_rfl⟩⟩
instance bo33 : BoC 33 := ⟨⟨by kernel_rfl⟩⟩
instance bo34 : BoC 34 := ⟨⟨by kernel_rfl⟩⟩
instance bo35 : BoC 35 := ⟨⟨by kernel_rfl⟩⟩
instance bo36 : BoC 36 := ⟨⟨by kernel_rfl⟩⟩
instance bo37 : BoC 37 := ⟨⟨by kernel_rfl⟩⟩
instance bo38 : BoC 38 := ⟨⟨by kernel_rfl⟩⟩
instance bo39 : BoC 39 := ⟨⟨by kernel_rfl⟩⟩
instance bo40 : BoC 40 := ⟨⟨by kernel_rfl⟩⟩
instance bo41 : BoC 41 := ⟨⟨by kernel_rfl⟩⟩
instance bo42 : BoC 42 := ⟨⟨by kernel_rfl⟩⟩
instance bo43 : BoC 43 := ⟨⟨by kernel_rfl⟩⟩
instance bo44 : BoC 44 := ⟨⟨by kernel_rfl⟩⟩
instance bo45 : BoC 45 := ⟨⟨by kernel_rfl⟩⟩
instance bo46 : BoC 46 := ⟨⟨by kernel_rfl⟩⟩
instance bo47 : BoC 47 := ⟨⟨by kernel_rfl⟩⟩
instance bo48 : BoC 48 := ⟨⟨by kernel_rfl⟩⟩
instance bo49 : BoC 49 := ⟨⟨by kernel_rfl⟩⟩
instance bo51 : BoC 51 := ⟨⟨by kernel_rfl⟩⟩
instance bo52 : BoC 52 := ⟨⟨by kernel_rfl⟩⟩
instance bo56 : BoC 56 := ⟨⟨by kernel_rfl⟩⟩
instance bo80 : BoC 80 := ⟨⟨by kernel_rfl⟩⟩
instance bo88 : BoC 88 := ⟨⟨by kernel_rfl⟩⟩
instance bo90 : BoC 90 := ⟨⟨by kernel_rfl⟩⟩
instance bo91 : BoC 91 := ⟨⟨by kernel_rfl⟩⟩
instance bo92 : BoC 92 := ⟨⟨by kernel_rfl⟩⟩
instance bo93 : BoC 93 := ⟨⟨by kernel_rfl⟩⟩
instance bo94 : BoC 94 := ⟨⟨by kernel_rfl⟩⟩
instance bo95 : BoC 95 := ⟨⟨by kernel_rfl⟩⟩
instance bo97 : BoC 97 := ⟨⟨by kernel_rfl⟩⟩
instance bo98 : BoC 98 := ⟨⟨by kernel_rfl⟩⟩
instance bo100 : BoC 100 := ⟨⟨by kernel_rfl⟩⟩
instance bo133 : BoC 133 := ⟨⟨by kernel_rfl⟩⟩
instance bo136 : BoC 136 := ⟨⟨by kernel_rfl⟩⟩
instance bo139 : BoC 139 := ⟨⟨by kernel_rfl⟩⟩
instance bo140 : BoC 140 := ⟨⟨by kernel_rfl⟩⟩
instance bo141 : BoC 141 := ⟨⟨by kernel_rfl⟩⟩
instance bo142 : BoC 142 := ⟨⟨by kernel_rfl⟩⟩
instance bo143 : BoC 143 := ⟨⟨by kernel_rfl⟩⟩
instance bo144 : BoC 144 := ⟨⟨by kernel_rfl⟩⟩
instance bo145 : BoC 145 := ⟨⟨by kernel_rfl⟩⟩
instance bo146 : BoC 146 := ⟨⟨by kernel_rfl⟩⟩
instance bo147 : BoC 147 := ⟨⟨by kernel_rfl⟩⟩
instance bo148 : BoC 148 := ⟨⟨by kernel_rfl⟩⟩
instance bo149 : BoC 149 := ⟨⟨by kernel_rfl⟩⟩
instance bo150 : BoC 150 := ⟨⟨by kernel_rfl⟩⟩
instance bo151 : BoC 151 := ⟨⟨by kernel_rfl⟩⟩
instance bo152 : BoC 152 := ⟨⟨by kernel_rfl⟩⟩
instance bo153 : BoC 153 := ⟨⟨by kernel_rfl⟩⟩
instance bo160 : BoC 160 := ⟨⟨by kernel_rfl⟩⟩
instance bo161 : BoC 161 := ⟨⟨by kernel_rfl⟩⟩
instance bo172 : BoC 172 := ⟨⟨by kernel_rfl⟩⟩
instance bo173 : BoC 173 := ⟨⟨by kernel_rfl⟩⟩
instance bo179 : BoC 179 := ⟨⟨by kernel_rfl⟩⟩
instance bo191 : BoC 191 := ⟨⟨by kernel_rfl⟩⟩
instance bo193 : BoC 193 := ⟨⟨by kernel_rfl⟩⟩
instance bo194 : BoC 194 := ⟨⟨by kernel_rfl⟩⟩
instance bo195 : BoC 195 := ⟨⟨by kernel_rfl⟩⟩
instance bo196 : BoC 196 := ⟨⟨by kernel_rfl⟩⟩
instance bo197 : BoC 197 := ⟨⟨by kernel_rfl⟩⟩
instance bo198 : BoC 198 := ⟨⟨by kernel_rfl⟩⟩
instance bo204 : BoC 204 := ⟨⟨by kernel_rfl⟩⟩
instance bo205 : BoC 205 := ⟨⟨by kernel_rfl⟩⟩
instance bo206 : BoC 206 := ⟨⟨by kernel_rfl⟩⟩
instance bo207 : BoC 207 := ⟨⟨by kernel_rfl⟩⟩
instance bo208 : BoC 208 := ⟨⟨by kernel_rfl⟩⟩
instance bo209 : BoC 209 := ⟨⟨by kernel_rfl⟩⟩
instance bo210 : BoC 210 := ⟨⟨by kernel_rfl⟩⟩
instance bo211 : BoC 211 := ⟨⟨by kernel_rfl⟩⟩
instance bo212 : BoC 212 := ⟨⟨by kernel_rfl⟩⟩
instance bo213 : BoC 213 := ⟨⟨by kernel_rfl⟩⟩
instance bo214 : BoC 214 := ⟨⟨by kernel_rfl⟩⟩
instance bo215 : BoC 215 := ⟨⟨by kernel_rfl⟩⟩
instance bo216 : BoC 216 := ⟨⟨by kernel_rfl⟩⟩
instance bo217 : BoC 217 := ⟨⟨by kernel_rfl⟩⟩
instance bo225 : BoC 225 := ⟨⟨by kernel_rfl⟩⟩
instance bo243 : BoC 243 := ⟨⟨by kernel_rfl⟩⟩
instance bo244 : BoC 244 := ⟨⟨by kernel_rfl⟩⟩
instance bo246 : BoC 246 := ⟨⟨by kernel_rfl⟩⟩
instance bo248 : BoC 248 := ⟨⟨by kernel_rfl⟩⟩
instance bo250 : BoC 250 := ⟨⟨by kernel_rfl⟩⟩
instance bo251 : BoC 251 := ⟨⟨by kernel_rfl⟩⟩
instance bo257 : BoC 257 := ⟨⟨by kernel_rfl⟩⟩
instance bo258 : BoC 258 := ⟨⟨by kernel_rfl⟩⟩
instance bo259 : BoC 259 := ⟨⟨by kernel_rfl⟩⟩
instance bo260 : BoC 260 := ⟨⟨by kernel_rfl⟩⟩
instance bo261 : BoC 261 := ⟨⟨by kernel_rfl⟩⟩
instance bo262 : BoC 262 := ⟨⟨by kernel_rfl⟩⟩
instance bo263 : BoC 263 := ⟨⟨by kernel_rfl⟩⟩
instance bo264 : BoC 264 := ⟨⟨by kernel_rfl⟩⟩
instance bo265 : BoC 265 := ⟨⟨by kernel_rfl⟩⟩
instance bo266 : BoC 266 := ⟨⟨by kernel_rfl⟩⟩
instance bo267 : BoC 267 := ⟨⟨by kernel_rfl⟩⟩
instance bo299 : BoC 299 := ⟨⟨by kernel_rfl⟩⟩
instance bo300 : BoC 300 := ⟨⟨by kernel_rfl⟩⟩
instance bo301 : BoC 301 := ⟨⟨by kernel_rfl⟩⟩
instance bo306 : BoC 306 := ⟨⟨by kernel_rfl⟩⟩
instance bo307 : BoC 307 := ⟨⟨by kernel_rfl⟩⟩
instance bo308 : BoC 308 := ⟨⟨by kernel_rfl⟩⟩
instance bo309 : BoC 309 := ⟨⟨by kernel_rfl⟩⟩
instance bo310 : BoC 310 := ⟨⟨by kernel_rfl⟩⟩
instance bo311 : BoC 311 := ⟨⟨by kernel_rfl⟩⟩
instance bo312 : BoC 312 := ⟨⟨by kernel_rfl⟩⟩
instance bo313 : BoC 313 := ⟨⟨by kernel_rfl⟩⟩
instance bo314 : BoC 314 := ⟨⟨by kernel_rfl⟩⟩
instance bo315 : BoC 315 := ⟨⟨by kernel_rfl⟩⟩
instance bo316 : BoC 316 := ⟨⟨by kernel_rfl⟩⟩
instance bo317 : BoC 317 := ⟨⟨by kernel_rfl⟩⟩
instance bo319 : BoC 319 := ⟨⟨by kernel_rfl⟩⟩
instance bo338 : BoC 338 := ⟨⟨by kernel_rfl⟩⟩
instance bo339 : BoC 339 := ⟨⟨by kernel_rfl⟩⟩
instance bo340 : BoC 340 := ⟨⟨by kernel_rfl⟩⟩
instance bo351 : BoC 351 := ⟨⟨by kernel_rfl⟩⟩
instance bo352 : BoC 352 := ⟨⟨by kernel_rfl⟩⟩
theorem ef45 : EfI Tryz.prog 45 118 1 24 [.zero] := ⟨by kernel_rfl⟩
theorem ef48 : EfI Tryz.prog 48 29 5 112 [.d (.v (.string ByteArray.empty)), .zero, .zero, .zero, .zero] := ⟨by kernel_rfl⟩
theorem ef58 : EfI Tryz.prog 58 208 4 32 [.d (.v (.int .i64 0)), .d (.v (.bool false)), .d (.v (.int .i64 0)), .d (.v (.int .i64 0))] := ⟨by kernel_rfl⟩
theorem ef86 : EfI Tryz.prog 86 3 1 8 [.d (.v (.int .i64 0))] := ⟨by kernel_rfl⟩
theorem ef116 : EfI Tryz.prog 116 9 1 16 [.d (.v (.string ByteArray.empty))] := ⟨by kernel_rfl⟩
theorem ef118 : EfI Tryz.prog 118 4 1 1 [.d (.v (.bool false))] := ⟨by kernel_rfl⟩
theorem el22 : ElI Tryz.prog 22 10 := ⟨by kernel_rfl⟩
theorem el25 : ElI Tryz.prog 25 3 := ⟨by kernel_rfl⟩
theorem el26 : ElI Tryz.prog 26 5 := ⟨by kernel_rfl⟩
theorem el27 : ElI Tryz.prog 27 2 := ⟨by kernel_rfl⟩
theorem el36 : ElI Tryz.prog 36 3 := ⟨by kernel_rfl⟩
theorem el45 : ElI Tryz.prog 45 1 := ⟨by kernel_rfl⟩
theorem el48 : ElI Tryz.prog 48 5 := ⟨by kernel_rfl⟩
theorem el57 : ElI Tryz.prog 57 3 := ⟨by kernel_rfl⟩
theorem el58 : ElI Tryz.prog 58 4 := ⟨by kernel_rfl⟩
theorem el86 : ElI Tryz.prog 86 1 := ⟨by kernel_rfl⟩
theorem el116 : ElI Tryz.prog 116 1 := ⟨by kernel_rfl⟩
theorem el118 : ElI Tryz.prog 118 1 := ⟨by kernel_rfl⟩
theorem el127 : ElI Tryz.prog 127 2 := ⟨by kernel_rfl⟩
theorem el128 : ElI Tryz.prog 128 13 := ⟨by kernel_rfl⟩
theorem el133 : ElI Tryz.prog 133 8 := ⟨by kernel_rfl⟩
theorem el134 : ElI Tryz.prog 134 2 := ⟨by kernel_rfl⟩
instance fd24_0 : FdC 24 0 0 none := ⟨⟨by kernel_rfl⟩⟩
instance fd29_0 : FdC 29 0 0 none := ⟨⟨by kernel_rfl⟩⟩
instance fd29_1 : FdC 29 1 1 (some 1) := ⟨⟨by kernel_rfl⟩⟩
instance fd29_2 : FdC 29 2 2 none := ⟨⟨by kernel_rfl⟩⟩
instance fd29_3 : FdC 29 3 3 none := ⟨⟨by kernel_rfl⟩⟩
instance fd29_4 : FdC 29 4 4 none := ⟨⟨by kernel_rfl⟩⟩
instance fd31_0 : FdC 31 0 0 none := ⟨⟨by kernel_rfl⟩⟩
instance fd31_1 : FdC 31 1 1 none := ⟨⟨by kernel_rfl⟩⟩
instance fd31_5 : FdC 31 5 5 none := ⟨⟨by kernel_rfl⟩⟩
instance fd38_0 : FdC 38 0 0 none := ⟨⟨by kernel_rfl⟩⟩
instance fd38_1 : FdC 38 1 1 none := ⟨⟨by kernel_rfl⟩⟩
instance fd38_2 : FdC 38 2 2 none := ⟨⟨by kernel_rfl⟩⟩
instance fd38_3 : FdC 38 3 3 none := ⟨⟨by kernel_rfl⟩⟩
instance fd60_0 : FdC 60 0 0 none := ⟨⟨by kernel_rfl⟩⟩
instance fd60_1 : FdC 60 1 1 none := ⟨⟨by kernel_rfl⟩⟩
instance fd60_2 : FdC 60 2 2 none := ⟨⟨by kernel_rfl⟩⟩
instance fd62_0 : FdC 62 0 0 none := ⟨⟨by kernel_rfl⟩⟩
instance fd62_1 : FdC 62 1 1 none := ⟨⟨by kernel_rfl⟩⟩
instance fd62_2 : FdC 62 2 2 (some 3) := ⟨⟨by kernel_rfl⟩⟩
instance fd65_0 : FdC 65 0 0 none := ⟨⟨by kernel_rfl⟩⟩
instance fd65_1 : FdC 65 1 1 none := ⟨⟨by kernel_rfl⟩⟩
instance fd65_2 : FdC 65 2 2 none := ⟨⟨by kernel_rfl⟩⟩
instance fd81_2 : FdC 81 2 20 (some 7) := ⟨⟨by kernel_rfl⟩⟩
instance fd88_0 : FdC 88 0 0 none := ⟨⟨by kernel_rfl⟩⟩
instance fd88_1 : FdC 88 1 1 none := ⟨⟨by kernel_rfl⟩⟩
instance fd88_2 : FdC 88 2 2 none := ⟨⟨by kernel_rfl⟩⟩
instance fd98_0 : FdC 98 0 0 none := ⟨⟨by kernel_rfl⟩⟩
instance fd98_1 : FdC 98 1 1 none := ⟨⟨by kernel_rfl⟩⟩
instance fd113_0 : FdC 113 0 0 none := ⟨⟨by kernel_rfl⟩⟩
instance fd113_1 : FdC 113 1 1 none := ⟨⟨by kernel_rfl⟩⟩
instance fd113_2 : FdC 113 2 2 none := ⟨⟨by kernel_rfl⟩⟩
instance fd130_0 : FdC 130 0 0 none := ⟨⟨by kernel_rfl⟩⟩
instance fd130_1 : FdC 130 1 1 none := ⟨⟨by kernel_rfl⟩⟩
instance fd130_2 : FdC 130 2 2 none := ⟨⟨by kernel_rfl⟩⟩
instance fd130_3 : FdC 130 3 3 none := ⟨⟨by kernel_rfl⟩⟩
instance fd130_4 : FdC 130 4 4 none := ⟨⟨by kernel_rfl⟩⟩
instance fd130_5 : FdC 130 5 5 none := ⟨⟨by kernel_rfl⟩⟩
instance fd130_6 : FdC 130 6 6 none := ⟨⟨by kernel_rfl⟩⟩
instance fd130_7 : FdC 130 7 7 none := ⟨⟨by kernel_rfl⟩⟩
instance fd130_8 : FdC 130 8 8 none := ⟨⟨by kernel_rfl⟩⟩
instance fd130_9 : FdC 130 9 9 none := ⟨⟨by kernel_rfl⟩⟩
instance fd136_0 : FdC 136 0 0 none := ⟨⟨by kernel_rfl⟩⟩
instance fd136_1 : FdC 136 1 1 none := ⟨⟨by kernel_rfl⟩⟩
instance fd136_2 : FdC 136 2 2 none := ⟨⟨by kernel_rfl⟩⟩
instance fd136_3 : FdC 136 3 3 none := ⟨⟨by kernel_rfl⟩⟩
instance fd136_4 : FdC 136 4 4 none := ⟨⟨by kernel_rfl⟩⟩
instance fd136_5 : FdC 136 5 5 none := ⟨⟨by kernel_rfl⟩⟩
instance fd136_6 : FdC 136 6 6 none := ⟨⟨by kernel_rfl⟩⟩
instance fd136_7 : FdC 136 7 7 none := ⟨⟨by kernel_rfl⟩⟩
instance fd138_0 : FdC 138 0 0 none := ⟨⟨by kernel_rfl⟩⟩
instance fd138_1 : FdC 138 1 1 none := ⟨⟨by kernel_rfl⟩⟩
instance fd138_2 : FdC 138 2 2 none := ⟨⟨by kernel_rfl⟩⟩
instance fd138_3 : FdC 138 3 3 none := ⟨⟨by kernel_rfl⟩⟩
instance fd138_4 : FdC 138 4 4 none := ⟨⟨by kernel_rfl⟩⟩
instance fd138_5 : FdC 138 5 5 (some 8) := ⟨⟨by kernel_rfl⟩⟩
instance fd195_0 : FdC 195 0 0 none := ⟨⟨by kernel_rfl⟩⟩
instance fd195_1 : FdC 195 1 1 none := ⟨⟨by kernel_rfl⟩⟩
instance fd198_0 : FdC 198 0 0 none := ⟨⟨by kernel_rfl⟩⟩
instance fd208_0 : FdC 208 0 0 none := ⟨⟨by kernel_rfl⟩⟩
instance fd208_1 : FdC 208 1 1 none := ⟨⟨by kernel_rfl⟩⟩
instance fd208_2 : FdC 208 2 2 none := ⟨⟨by kernel_rfl⟩⟩
instance fd208_3 : FdC 208 3 3 none := ⟨⟨by kernel_rfl⟩⟩
instance fd332_0 : FdC 332 0 0 none := ⟨⟨by kernel_rfl⟩⟩
instance fd332_1 : FdC 332 1 1 none := ⟨⟨by kernel_rfl⟩⟩
theorem ib4 : IbI Tryz.prog 4 := ⟨by kernel_rfl⟩
theorem ik2 : IkI Tryz.prog 2 .i64 := ⟨by kernel_rfl⟩
theorem ik5 : IkI Tryz.prog 5 .u8 := ⟨by kernel_rfl⟩
theorem ik229 : IkI Tryz.prog 229 .u64 := ⟨by kernel_rfl⟩
theorem is45 : IsI Tryz.prog 45 := ⟨by kernel_rfl⟩
theorem is58 : IsI Tryz.prog 58 := ⟨by kernel_rfl⟩
theorem is86 : IsI Tryz.prog 86 := ⟨by kernel_rfl⟩
theorem is116 : IsI Tryz.prog 116 := ⟨by kernel_rfl⟩
theorem is118 : IsI Tryz.prog 118 := ⟨by kernel_rfl⟩
instance ld2 : LdC 2 := ⟨⟨by kernel_rfl⟩⟩
instance ld3 : LdC 3 := ⟨⟨by kernel_rfl⟩⟩
instance ld4 : LdC 4 := ⟨⟨by kernel_rfl⟩⟩
instance ld9 : LdC 9 := ⟨⟨by kernel_rfl⟩⟩
instance ld22 : LdC 22 := ⟨⟨by kernel_rfl⟩⟩
instance ld24 : LdA 24 1 := ⟨⟨by kernel_rfl⟩⟩
instance ld25 : LdC 25 := ⟨⟨by kernel_rfl⟩⟩
instance ld26 : LdC 26 := ⟨⟨by kernel_rfl⟩⟩
instance ld27 : LdC 27 := ⟨⟨by kernel_rfl⟩⟩
instance ld29 : LdA 29 5 := ⟨⟨by kernel_rfl⟩⟩
instance ld31 : LdA 31 6 := ⟨⟨by kernel_rfl⟩⟩
instance ld36 : LdC 36 := ⟨⟨by kernel_rfl⟩⟩
instance ld38 : LdA 38 4 := ⟨⟨by kernel_rfl⟩⟩
instance ld57 : LdC 57 := ⟨⟨by kernel_rfl⟩⟩
instance ld58 : LdC 58 := ⟨⟨by kernel_rfl⟩⟩
instance ld60 : LdA 60 3 := ⟨⟨by kernel_rfl⟩⟩
instance ld62 : LdA 62 5 := ⟨⟨by kernel_rfl⟩⟩
instance ld65 : LdA 65 3 := ⟨⟨by kernel_rfl⟩⟩
instance ld79 : LdA 79 7 := ⟨⟨by kernel_rfl⟩⟩
instance ld81 : LdA 81 27 := ⟨⟨by kernel_rfl⟩⟩
instance ld88 : LdA 88 3 := ⟨⟨by kernel_rfl⟩⟩
instance ld98 : LdA 98 2 := ⟨⟨by kernel_rfl⟩⟩
instance ld113 : LdA 113 3 := ⟨⟨by kernel_rfl⟩⟩
instance ld116 : LdC 116 := ⟨⟨by kernel_rfl⟩⟩
instance ld127 : LdC 127 := ⟨⟨by kernel_rfl⟩⟩
instance ld128 : LdC 128 := ⟨⟨by kernel_rfl⟩⟩
instance ld130 : LdA 130 10 := ⟨⟨by kernel_rfl⟩⟩
instance ld133 : LdC 133 := ⟨⟨by kernel_rfl⟩⟩
instance ld134 : LdC 134 := ⟨⟨by kernel_rfl⟩⟩
instance ld136 : LdA 136 8 := ⟨⟨by kernel_rfl⟩⟩
instance ld138 : LdA 138 13 := ⟨⟨by kernel_rfl⟩⟩
instance ld195 : LdA 195 2 := ⟨⟨by kernel_rfl⟩⟩
instance ld208 : LdA 208 4 := ⟨⟨by kernel_rfl⟩⟩
instance ld332 : LdA 332 2 := ⟨⟨by kernel_rfl⟩⟩
theorem ns3 : NsI Tryz.prog 3 := ⟨by kernel_rfl⟩
theorem ns4 : NsI Tryz.prog 4 := ⟨by kernel_rfl⟩
theorem pl38 : PlI Tryz.prog 38 [.d (.v (.int .i64 0)), .d (.v (.int .i64 0)), .d (.v (.string ByteArray.empty)), .zero] [(0, 1), (1, 1), (2, 1), (3, 1)] := ⟨by kernel_rfl⟩
theorem pl60 : PlI Tryz.prog 60 [.d (.v (.int .i64 0)), .d (.v (.int .i64 0)), .zero] [(0, 1), (1, 1), (2, 1)] := ⟨by kernel_rfl⟩
theorem pl77 : PlI Tryz.prog 77 [.d (.v (.string ByteArray.empty)), .zero, .d (.v (.int .i64 0)), .d (.v (.int .i64 0)), .zero, .d (.v (.string ByteArray.empty)), .zero, .d (.v (.int .i64 0)), .d (.v (.int .i64 0)), .zero] [(0, 5), (5, 5)] := ⟨by kernel_rfl⟩
theorem pl88 : PlI Tryz.prog 88 [.d (.v (.int .i64 0)), .d (.v (.bool false)), .d (.v (.int .i64 0))] [(0, 1), (1, 1), (2, 1)] := ⟨by kernel_rfl⟩
theorem pl113 : PlI Tryz.prog 113 [.d (.v (.int .i64 0)), .d (.v (.string ByteArray.empty)), .d (.v (.int .i64 0))] [(0, 1), (1, 1), (2, 1)] := ⟨by kernel_rfl⟩
theorem pl130 : PlI Tryz.prog 130 [.d (.v (.int .i64 0)), .d (.v (.string ByteArray.empty)), .d (.v (.int .i64 0)), .d (.v (.int .i64 0)), .d (.v (.int .i64 0)), .zero, .zero, .d (.v (.int .i64 0)), .d (.v (.int .i64 0)), .d (.v (.bool false))] [(0, 1), (1, 1), (2, 1), (3, 1), (4, 1), (5, 1), (6, 1), (7, 1), (8, 1), (9, 1)] := ⟨by kernel_rfl⟩
theorem pl136 : PlI Tryz.prog 136 [.d (.v (.int .i64 0)), .d (.v (.bool false)), .d (.v (.int .i64 0)), .d (.v (.string ByteArray.empty)), .d (.v (.int .i64 0)), .zero, .zero, .zero] [(0, 1), (1, 1), (2, 1), (3, 1), (4, 1), (5, 1), (6, 1), (7, 1)] := ⟨by kernel_rfl⟩
theorem pl198 : PlI Tryz.prog 198 [.zero] [(0, 1)] := ⟨by kernel_rfl⟩
theorem pl208 : PlI Tryz.prog 208 [.d (.v (.int .i64 0)), .d (.v (.bool false)), .d (.v (.int .i64 0)), .d (.v (.int .i64 0))] [(0, 1), (1, 1), (2, 1), (3, 1)] := ⟨by kernel_rfl⟩
instance sz2 : SzC 2 1 := ⟨⟨by kernel_rfl⟩⟩
instance sz3 : SzC 3 1 := ⟨⟨by kernel_rfl⟩⟩
instance sz4 : SzC 4 1 := ⟨⟨by kernel_rfl⟩⟩
instance sz9 : SzC 9 1 := ⟨⟨by kernel_rfl⟩⟩
instance sz29 : SzC 29 5 := ⟨⟨by kernel_rfl⟩⟩
instance sz38 : SzC 38 4 := ⟨⟨by kernel_rfl⟩⟩
instance sz58 : SzC 58 1 := ⟨⟨by kernel_rfl⟩⟩
instance sz60 : SzC 60 3 := ⟨⟨by kernel_rfl⟩⟩
instance sz62 : SzC 62 5 := ⟨⟨by kernel_rfl⟩⟩
instance sz65 : SzC 65 3 := ⟨⟨by kernel_rfl⟩⟩
instance sz77 : SzC 77 10 := ⟨⟨by kernel_rfl⟩⟩
instance sz81 : SzC 81 27 := ⟨⟨by kernel_rfl⟩⟩
instance sz88 : SzC 88 3 := ⟨⟨by kernel_rfl⟩⟩
instance sz94 : SzC 94 4 := ⟨⟨by kernel_rfl⟩⟩
instance sz98 : SzC 98 2 := ⟨⟨by kernel_rfl⟩⟩
instance sz113 : SzC 113 3 := ⟨⟨by kernel_rfl⟩⟩
instance sz116 : SzC 116 1 := ⟨⟨by kernel_rfl⟩⟩
instance sz127 : SzC 127 1 := ⟨⟨by kernel_rfl⟩⟩
instance sz128 : SzC 128 1 := ⟨⟨by kernel_rfl⟩⟩
instance sz130 : SzC 130 10 := ⟨⟨by kernel_rfl⟩⟩
instance sz133 : SzC 133 1 := ⟨⟨by kernel_rfl⟩⟩
instance sz134 : SzC 134 1 := ⟨⟨by kernel_rfl⟩⟩
instance sz136 : SzC 136 8 := ⟨⟨by kernel_rfl⟩⟩
instance sz138 : SzC 138 13 := ⟨⟨by kernel_rfl⟩⟩
instance sz195 : SzC 195 2 := ⟨⟨by kernel_rfl⟩⟩
instance sz198 : SzC 198 1 := ⟨⟨by kernel_rfl⟩⟩
instance sz208 : SzC 208 4 := ⟨⟨by kernel_rfl⟩⟩
instance sz332 : SzC 332 2 := ⟨⟨by kernel_rfl⟩⟩
theorem zr29 : ZrI Tryz.prog 29 [.d (.v (.string ByteArray.empty)), .zero, .zero, .zero, .zero] := ⟨by kernel_rfl⟩
theorem zr38 : ZrI Tryz.prog 38 [.d (.v (.int .i64 0)), .d (.v (.int .i64 0)), .d (.v (.string ByteArray.empty)), .zero] := ⟨by kernel_rfl⟩
theorem zr60 : ZrI Tryz.prog 60 [.d (.v (.int .i64 0)), .d (.v (.int .i64 0)), .zero] := ⟨by kernel_rfl⟩
theorem zr62 : ZrI Tryz.prog 62 [.d (.v (.string ByteArray.empty)), .zero, .d (.v (.int .i64 0)), .d (.v (.int .i64 0)), .zero] := ⟨by kernel_rfl⟩
theorem zr65 : ZrI Tryz.prog 65 [.d (.v (.string ByteArray.empty)), .d (.v (.int .i64 0)), .d (.v (.int .i64 0))] := ⟨by kernel_rfl⟩
theorem zr77 : ZrI Tryz.prog 77 [.d (.v (.string ByteArray.empty)), .zero, .d (.v (.int .i64 0)), .d (.v (.int .i64 0)), .zero, .d (.v (.string ByteArray.empty)), .zero, .d (.v (.int .i64 0)), .d (.v (.int .i64 0)), .zero] := ⟨by kernel_rfl⟩
theorem zr81 : ZrI Tryz.prog 81 [.d (.v (.string ByteArray.empty)), .zero, .zero, .zero, .zero, .d (.v (.string ByteArray.empty)), .zero, .zero, .zero, .zero, .d (.v (.string ByteArray.empty)), .zero, .d (.v (.int .i64 0)), .d (.v (.int .i64 0)), .zero, .d (.v (.string ByteArray.empty)), .zero, .d (.v (.int .i64 0)), .d (.v (.int .i64 0)), .zero, .d (.v (.int .i64 0)), .d (.v (.int .i64 0)), .zero, .d (.v (.int .i64 0)), .d (.v (.int .i64 0)), .zero, .d (.v (.int .i64 0))] := ⟨by kernel_rfl⟩
theorem zr88 : ZrI Tryz.prog 88 [.d (.v (.int .i64 0)), .d (.v (.bool false)), .d (.v (.int .i64 0))] := ⟨by kernel_rfl⟩
theorem zr94 : ZrI Tryz.prog 94 [.d (.v (.int .i64 0)), .d (.v (.int .i64 0)), .zero, .zero] := ⟨by kernel_rfl⟩
theorem zr98 : ZrI Tryz.prog 98 [.d (.v (.string ByteArray.empty)), .d (.v (.int .i64 0))] := ⟨by kernel_rfl⟩
theorem zr105 : ZrI Tryz.prog 105 [.d (.v (.pointer none)), .zero] := ⟨by kernel_rfl⟩
theorem zr113 : ZrI Tryz.prog 113 [.d (.v (.int .i64 0)), .d (.v (.string ByteArray.empty)), .d (.v (.int .i64 0))] := ⟨by kernel_rfl⟩
theorem zr130 : ZrI Tryz.prog 130 [.d (.v (.int .i64 0)), .d (.v (.string ByteArray.empty)), .d (.v (.int .i64 0)), .d (.v (.int .i64 0)), .d (.v (.int .i64 0)), .zero, .zero, .d (.v (.int .i64 0)), .d (.v (.int .i64 0)), .d (.v (.bool false))] := ⟨by kernel_rfl⟩
theorem zr136 : ZrI Tryz.prog 136 [.d (.v (.int .i64 0)), .d (.v (.bool false)), .d (.v (.int .i64 0)), .d (.v (.string ByteArray.empty)), .d (.v (.int .i64 0)), .zero, .zero, .zero] := ⟨by kernel_rfl⟩
theorem zr138 : ZrI Tryz.prog 138 [.d (.v (.int .i64 0)), .d (.v (.string ByteArray.empty)), .d (.v (.int .i64 0)), .d (.v (.bool false)), .d (.v (.bool false)), .d (.v (.int .i64 0)), .d (.v (.bool false)), .d (.v (.int .i64 0)), .d (.v (.string ByteArray.empty)), .d (.v (.int .i64 0)), .zero, .zero, .zero] := ⟨by kernel_rfl⟩
theorem zr195 : ZrI Tryz.prog 195 [.d (.v (.int .i64 0)), .d (.v (.string ByteArray.empty))] := ⟨by kernel_rfl⟩
theorem zr198 : ZrI Tryz.prog 198 [.zero] := ⟨by kernel_rfl⟩
theorem zr208 : ZrI Tryz.prog 208 [.d (.v (.int .i64 0)), .d (.v (.bool false)), .d (.v (.int .i64 0)), .d (.v (.int .i64 0))] := ⟨by kernel_rfl⟩
theorem zr332 : ZrI Tryz.prog 332 [.d (.v (.int .i64 0)), .d (.v (.string ByteArray.empty))] := ⟨by kernel_rfl⟩
end Go.Proofs.YtgehafnodibhpaaGreatDoor

namespace Go.Proofs.YtgehafnodibhpaaGreatDoor
open Go Go.RowKit
class inductive RegN (id : Nat) (nx : outParam Nat) : Prop
 | mk : RegN id nx
instance : RegN 0 100 := .mk
instance : RegN 1 200 := .mk
instance : RegN 2 300 := .mk
instance : RegN 3 400 := .mk
instance : RegN 4 500 := .mk
instance : RegN 5 600 := .mk
instance : RegN 6 700 := .mk
instance : RegN 7 800 := .mk
instance : RegN 8 900 := .mk
instance : RegN 9 1000 := .mk
instance : RegN 10 1100 := .mk
instance : RegN 11 1200 := .mk
instance : RegN 12 1300 := .mk
instance : RegN 13 1400 := .mk
instance : RegN 14 1500 := .mk
instance : RegN 15 1600 := .mk
instance : RegN 16 1700 := .mk
instance : RegN 17 1800 := .mk
instance : RegN 18 1900 := .mk
instance : RegN 19 2000 := .mk
instance : RegN 20 2100 := .mk
instance : RegN 21 2200 := .mk
instance : RegN 22 2300 := .mk
instance : RegN 23 2400 := .mk
instance : RegN 24 2500 := .mk
instance : RegN 25 2600 := .mk
instance : RegN 26 2700 := .mk
instance : RegN 27 2800 := .mk
instance : RegN 28 2900 := .mk
instance : RegN 29 3000 := .mk
instance : RegN 30 3100 := .mk
instance : RegN 31 3200 := .mk
instance : RegN 32 3300 := .mk
instance : RegN 33 3400 := .mk
instance : RegN 34 3500 := .mk
instance : RegN 35 3600 := .mk
instance : RegN 36 3700 := .mk
instance : RegN 37 3800 := .mk
instance : RegN 38 3900 := .mk
instance : RegN 39 4000 := .mk
instance : RegN 40 4100 := .mk
instance : RegN 41 4200 := .mk
instance : RegN 42 4300 := .mk
instance : RegN 43 4400 := .mk
instance : RegN 44 4500 := .mk
instance : RegN 45 4600 := .mk
instance : RegN 46 4700 := .mk
instance : RegN 47 4800 := .mk
instance : RegN 48 4900 := .mk
instance : RegN 49 5000 := .mk
instance : RegN 50 5100 := .mk
instance : RegN 51 5200 := .mk
instance : RegN 52 5300 := .mk
instance : RegN 53 5400 := .mk
instance : RegN 54 5500 := .mk
instance : RegN 55 5600 := .mk
instance : RegN 56 5700 := .mk
instance : RegN 57 5800 := .mk
instance : RegN 58 5900 := .mk
instance : RegN 59 6000 := .mk
instance : RegN 60 6100 := .mk
variable {N : Nat} {dr : Bool} {cs : List Code} {R : AX → St → Prop} {id : Nat} {l : List Oper} {tm : List (Nat × AV)} {bo : BO} {nx nx' : Nat}
theorem rg [RegN id nx'] (hn : Nat.ble nx nx' = true) (h : W Tryz.prog lendS N ⟨l⟩ dr cs R 0 l tm bo nx' []) : JL Tryz.prog N (.region id ⟨l⟩ dr :: cs) ⟨tm, clean bo, nx⟩ R := JL.regionW nx' mo hn h
theorem rgn (id nx' : Nat) (hn : Nat.ble nx nx' = true) (h : W Tryz.prog lendS N ⟨l⟩ dr cs R 0 l tm bo nx' []) : JL Tryz.prog N (.region id ⟨l⟩ dr :: cs) ⟨tm, clean bo, nx⟩ R := JL.regionW nx' mo hn h
variable {ops : Array Oper} {i : Nat} {os : List Oper} {ns : List Note} {d : Nat} {pos : String} {ty : TypeId} {af : Array Edge} {lend : FuncId → Bool}
theorem W.fa {s : TypeId} {x : Operand} {f off : Nat} {l : Option Nat} {c c' : C} [hf : FdC s f off l] (hd : Nat.blt d N = true) (hx : (ev (lk tm) x).bind slot1 = some c) (ha : addOff off c = some c') (h : W Tryz.prog lend N ops dr cs R (i + 1) os ((d, .one false [c']) :: tm) bo nx (ns ++ [⟨opKeys (lk tm) (lko bo) ⟨some d, .fieldAddr s x f, ty, pos, af, none⟩, []⟩])) : W Tryz.prog lend N ops dr cs R i (⟨some d, .fieldAddr s x f, ty, pos, af, none⟩ :: os) tm bo nx ns := W.fieldAddr hd hf.h hx ha h
theorem W.ld {t : TypeId} {x : Operand} {c c' : C} {cs' : List C} {off : Nat} [hl : LdC t] (hd : Nat.blt d N = true) (hx : (ev (lk tm) x).bind slot1 = some c) (hb : behind (lko bo) c = some (cs', off)) (hc : cs'[off]? = some c') (h : W Tryz.prog lend N ops dr cs R (i + 1) os ((d, .one false [c']) :: tm) bo nx (ns ++ [⟨opKeys (lk tm) (lko bo) ⟨some d, .load t x, ty, pos, af, none⟩, []⟩])) : W Tryz.prog lend N ops dr cs R i (⟨some d, .load t x, ty, pos, af, none⟩ :: os) tm bo nx ns := W.load hd hl.h hx hb hc h
theorem W.st {t : TypeId} {x y : Operand} {q : Key} {off n : Nat} {ty0 : TypeId} {vs cs1 cs2 : List C} [hs : SzC t n] (hx : (ev (lk tm) x).bind slot1 = some (.ptr q off)) (hy : (ev (lk tm) y).bind cellsOfAV = some vs) (hb : lko bo q = some (.st ty0 cs1)) (hu : putC off n vs cs1 = some cs2)
    (h : W Tryz.prog lend N ops dr cs R (i + 1) os tm ((q, some (.st ty0 cs2)) :: bo) nx (ns ++ [⟨opKeys (lk tm) (lko bo) ⟨none, .store t x y, ty, pos, af, none⟩, [q]⟩])) : W Tryz.prog lend N ops dr cs R i (⟨none, .store t x y, ty, pos, af, none⟩ :: os) tm bo nx ns := W.store hs.h hx hy hb hu h
end Go.Proofs.YtgehafnodibhpaaGreatDoor

namespace Go.Proofs.YtgehafnodibhpaaGreatDoor
open Go Go.RowKit
set_option linter.unusedSimpArgs false
set_option linter.unusedVariables false
def mEnts : Nat → List ByteArray → List MapEntry
 | _, [] => []
 | i, s :: r => { key := .string s, val := .bool true, born := i } :: mEnts (i + 1) r
def hasS (l : List ByteArray) (s : ByteArray) : Bool := l.any fun m => decide (m = s)
def addS (l : List ByteArray) (s : ByteArray) : List ByteArray := if hasS l s = true then l else l ++ [s]
theorem mEnts_app : ∀ (l : List ByteArray) (i : Nat) (s : ByteArray), mEnts i (l ++ [s]) = mEnts i l ++ [{ key := .string s, val := .bool true, born := i + l.length }]
 | [], i, s => rfl
 | x :: r, i, s => by
  show _ :: mEnts (i + 1) (r ++ [s]) = _ :: (mEnts (i + 1) r ++ _)
  rw [mEnts_app r (i + 1) s]
  congr 4
  simp only [List.length_cons]; omega
theorem bs_eqb (a b : ByteArray) : (a == b) = decide (a = b) := by
 obtain ⟨a⟩ := a
 obtain ⟨b⟩ := b
 show (a == b) = _
 by_cases h : a = b
 ·subst h; simp
 ·rw [decide_eq_false (fun e => h (by cases e; rfl))]
  simpa using h
theorem find_mEnts (s : ByteArray) : ∀ (l : List ByteArray) (i j : Nat), (hasS l s = false ∧ Instr.findNow .string (.string s) (mEnts i l) j = some none) ∨ (hasS l s = true ∧ ∃ k e, (mEnts i l)[k]? = some e ∧ e.key = .string s ∧ e.val = .bool true ∧ Instr.findNow .string (.string s) (mEnts i l) j = some (some (j + k, .bool true)))
 | [], i, j => .inl ⟨rfl, rfl⟩
 | x :: r, i, j => by
  have h1 : Instr.sameNow .string (.string s) (.string x) = some (decide (s = x)) := by
   show some (s == x) = _
   rw [bs_eqb]
  by_cases e : x = s
  ·subst e
   refine .inr ⟨by simp [hasS], 0, _, rfl, rfl, rfl, ?_⟩
   show (match Instr.sameNow .string (.string x) (.string x) with | some true => some (some (j, Value.bool true)) | some false => Instr.findNow .string (.string x) (mEnts (i + 1) r) (j + 1) | none => none) = _
   rw [h1, decide_eq_true rfl]; rfl
  ·have h2 : Instr.findNow .string (.string s) (mEnts i (x :: r)) j = Instr.findNow .string (.string s) (mEnts (i + 1) r) (j + 1) := by
     show (match Instr.sameNow .string (.string s) (.string x) with | some true => some (some (j, Value.bool true)) | some false => Instr.findNow .string (.string s) (mEnts (i + 1) r) (j + 1) | none => none) = _
     rw [h1, decide_eq_false (fun h => e h.symm)]
   have h3 : hasS (x :: r) s = hasS r s := by
    show (decide (x = s) || hasS r s) = _
    rw [decide_eq_false e]; rfl
   rcases find_mEnts s r (i + 1) (j + 1) with ⟨g1, g2⟩ | ⟨g1, k, e', g2, g3, g4, g5⟩
   ·exact .inl ⟨h3.trans g1, h2.trans g2⟩
   ·exact .inr ⟨h3.trans g1, k + 1, e', g2, g3, g4, by rw [h2, g5, show j + 1 + k = j + (k + 1) by omega]⟩
inductive MpI (P : Program) (t kt et : TypeId) : Prop | mk (h : P.underlying t = some (.map kt et)) (hk : P.underlying kt = some .string) (hz : semVal P (zeroValue et) = some (.bool false))
theorem sv_check1 {P : Program} {kt : TypeId} {s : ByteArray} {em : Bool} (n : Nat) (hk : P.underlying kt = some .string) : semVal P (Instr.checkKey em (n + 1) kt (.string s)) = some () := by
 simp only [Instr.checkKey]
 rw [semVal_bind, semVal_underlying hk]
 rfl
theorem sv_check {P : Program} {kt : TypeId} {s : ByteArray} {em : Bool} (hk : P.underlying kt = some .string) : semVal P (Instr.checkKey em 10000 kt (.string s)) = some () := sv_check1 9999 hk
theorem sv_find {P : Program} {kt : TypeId} {s : ByteArray} {es : List MapEntry} {r : Option (Nat × Value)} (hk : P.underlying kt = some .string) (h : Instr.findNow .string (.string s) es 0 = some r) : semVal P (Instr.findKey kt (.string s) es) = some r := by
 unfold Instr.findKey
 rw [semVal_bind, semVal_underlying hk]
 show semVal P (match Instr.findNow .string (.string s) es 0 with | some r => pure r | none => _) = _
 rw [h]; rfl
theorem mapFind_no {P : Program} {t kt et : TypeId} (hm : MpI P t kt et) {em : Bool} {s : ByteArray} {l : List ByteArray} (h : hasS l s = false) : mapFind P t em (.string s) (mEnts 0 l) = some (et, none) := by
 obtain ⟨h1, h2, h3⟩ := hm
 rcases find_mEnts s l 0 0 with ⟨g1, g2⟩ | ⟨g1, _⟩
 ·unfold mapFind
  simp only [h1, sv_check h2, sv_find h2 g2]
 ·rw [h] at g1; cases g1
theorem mapFind_yes {P : Program} {t kt et : TypeId} (hm : MpI P t kt et) {em : Bool} {s : ByteArray} {l : List ByteArray} (h : hasS l s = true) : ∃ k e, (mEnts 0 l)[k]? = some e ∧ e.key = .string s ∧ e.val = .bool true ∧ mapFind P t em (.string s) (mEnts 0 l) = some (et, some (k, .bool true)) := by
 obtain ⟨h1, h2, h3⟩ := hm
 rcases find_mEnts s l 0 0 with ⟨g1, _⟩ | ⟨g1, k, e, g2, g3, g4, g5⟩
 ·rw [h] at g1; cases g1
 ·refine ⟨k, e, g2, g3, g4, ?_⟩
  unfold mapFind
  rw [Nat.zero_add] at g5
  simp only [h1, sv_check h2, sv_find h2 g5]
section
variable {P : Program} {lend : FuncId → Bool} {N : Nat} {ops : Array Oper} {dr : Bool} {cs : List Code} {R : AX → St → Prop} {i : Nat} {os : List Oper} {tm : List (Nat × AV)} {bo : BO} {nx : Nat} {ns : List Note} {d : Nat} {pos : String} {ty : TypeId} {af : Array Edge}
theorem W.mapNew {t : TypeId} (k : Nat) (hd : Nat.blt d N = true) (hk : i * 64 = k) (h : W P lend N ops dr cs R (i + 1) os ((d, .one false [.mp (k, nx)]) :: tm) (((k, nx), some (.mp (mEnts 0 []).toArray ([] : List ByteArray).length)) :: bo) nx (ns ++ [⟨opKeys (lk tm) (lko bo) ⟨some d, .makeMap t none, ty, pos, af, none⟩, [(k, nx)]⟩])) : W P lend N ops dr cs R i (⟨some d, .makeMap t none, ty, pos, af, none⟩ :: os) tm bo nx ns := by
 subst hk
 exact W.up (av := .one false [.mp (i * 64, nx)]) (up := [((i * 64, nx), some (.mp (mEnts 0 []).toArray ([] : List ByteArray).length))]) hd rfl h
theorem W.mapGet {t kt et : TypeId} {x ix : Operand} {q : Key} {l : List ByteArray} {s : ByteArray} (hm : MpI P t kt et) (hd : Nat.blt d N = true) (hx : (ev (lk tm) x).bind slot1 = some (.mp q)) (hi : ev (lk tm) ix = some (.one false [.d (.v (.string s))])) (hq : lko bo q = some (.mp (mEnts 0 l).toArray l.length))
    (h : W P lend N ops dr cs R (i + 1) os ((d, .one false [.d (.v (.bool (hasS l s)))]) :: tm) bo nx (ns ++ [⟨opKeys (lk tm) (lko bo) ⟨some d, .lookup t x ix false, ty, pos, af, none⟩, []⟩])) : W P lend N ops dr cs R i (⟨some d, .lookup t x ix false, ty, pos, af, none⟩ :: os) tm bo nx ns := by
 refine W.val hd ?_ h
 simp only [effOf]
 unfold effLookup
 rw [ev_only (x := x) (by simp [Op.operands]), hx, ev_only (x := ix) (by simp [Op.operands]), hi]
 simp only [Option.bind_some, conV]
 rw [own_only (by rfl) (by simp [Op.operands]) hx (List.mem_singleton.2 rfl : q ∈ keysC (.mp q)), hq]
 simp only []
 cases hh : hasS l s with
 | false =>
  rw [mapFind_no hm hh]
  obtain ⟨h1, h2, h3⟩ := hm
  simp only [h3, Option.map_some]
  rfl
 | true =>
  obtain ⟨k, e, _, _, _, g⟩ := mapFind_yes hm (em := (mEnts 0 l).toArray.isEmpty) hh
  rw [g]
  rfl
theorem W.mapPut {t kt et : TypeId} {x ix y : Operand} {q : Key} {l : List ByteArray} {s : ByteArray} (hm : MpI P t kt et) (hx : (ev (lk tm) x).bind slot1 = some (.mp q)) (hi : ev (lk tm) ix = some (.one false [.d (.v (.string s))])) (hy : ev (lk tm) y = some (.one false [.d (.v (.bool true))])) (hq : lko bo q = some (.mp (mEnts 0 l).toArray l.length))
    (h : W P lend N ops dr cs R (i + 1) os tm ((q, some (.mp (mEnts 0 (addS l s)).toArray (addS l s).length)) :: bo) nx (ns ++ [⟨opKeys (lk tm) (lko bo) ⟨none, .mapUpdate t x ix y, ty, pos, af, none⟩, [q]⟩])) : W P lend N ops dr cs R i (⟨none, .mapUpdate t x ix y, ty, pos, af, none⟩ :: os) tm bo nx ns := by
 refine W.up0 (av := .un) (up := [(q, some (.mp (mEnts 0 (addS l s)).toArray (addS l s).length))]) ?_ h
 simp only [effOf]
 unfold effMapUpdate
 rw [ev_only (x := x) (by simp [Op.operands]), hx, ev_only (x := ix) (by simp [Op.operands]), hi, ev_only (x := y) (by simp [Op.operands]), hy]
 simp only [Option.bind_some, conV]
 rw [own_only (by rfl) (by simp [Op.operands]) hx (List.mem_singleton.2 rfl : q ∈ keysC (.mp q)), hq]
 simp only []
 cases hh : hasS l s with
 | false =>
  rw [mapFind_no hm hh]
  unfold addS
  rw [hh, if_neg (by decide), mEnts_app, List.length_append]
  simp
 | true =>
  obtain ⟨k, e, g1, g2, g3, g⟩ := mapFind_yes hm (em := false) hh
  rw [g]
  unfold addS
  rw [hh, if_pos rfl]
  have hsb : Instr.sameBits 10000 (((mEnts 0 l).toArray[k]?.map (·.key)).getD (.string s)) (.string s) = true := by
   rw [List.getElem?_toArray, g1]
   simp only [Option.map_some, Option.getD_some, g2]
   show (s == s) = true
   rw [bs_eqb]; exact decide_eq_true rfl
  simp only [hsb, if_true]
  have hmod : (mEnts 0 l).toArray.modify k (fun e => { e with key := .string s, val := .bool true }) = (mEnts 0 l).toArray := by
   refine Array.ext_getElem? fun j => ?_
   rw [Array.getElem?_modify]
   split
   ·rename_i hj
    subst hj
    rw [List.getElem?_toArray, g1]
    obtain ⟨ek, ev', eb⟩ := e
    cases g2; cases g3; rfl
   ·rfl
  rw [hmod]
theorem W.negI {t : TypeId} {x : Operand} {k : IntKind} {a : Int} (hd : Nat.blt d N = true) (hx : ev (lk tm) x = some (.one false [.d (.v (.int k a))])) (h : W P lend N ops dr cs R (i + 1) os ((d, .one false [.d (.v (.int k (k.wrap (0 - a))))]) :: tm) bo nx (ns ++ [⟨opKeys (lk tm) (lko bo) ⟨some d, .unOp .neg t x, ty, pos, af, none⟩, []⟩])) : W P lend N ops dr cs R i (⟨some d, .unOp .neg t x, ty, pos, af, none⟩ :: os) tm bo nx ns :=
 W.plain hd (fun lt hlt => plain1 rfl ((hlt x (by simp [Op.operands])).trans hx) (v := .int k (k.wrap (0 - a))) (by simp only [Op.unary, Op.intArith]; rfl) rfl) (fun _ _ _ _ _ _ _ h => h) h
theorem W.slss {t ty' : TypeId} {x y : Operand} {a b : ByteArray} (hd : Nat.blt d N = true) (hx : ev (lk tm) x = some (.one false [.d (.v (.string a))])) (hy : ev (lk tm) y = some (.one false [.d (.v (.string b))])) (h : W P lend N ops dr cs R (i + 1) os ((d, .one false [.d (.v (.bool (lessS a b)))]) :: tm) bo nx (ns ++ [⟨opKeys (lk tm) (lko bo) ⟨some d, .binOp .lss t x y ty', ty, pos, af, none⟩, []⟩])) : W P lend N ops dr cs R i (⟨some d, .binOp .lss t x y ty', ty, pos, af, none⟩ :: os) tm bo nx ns :=
 W.plain hd (fun lt hlt => plain2 rfl ((hlt x (by simp [Op.operands])).trans hx) ((hlt y (by simp [Op.operands])).trans hy) (by unfold eqGuard; rfl) (by
  simp only [binOp, Op.stringOp]; rfl) rfl) (fun _ _ _ _ _ _ _ h => orE_some h) h
theorem W.sgtr {t ty' : TypeId} {x y : Operand} {a b : ByteArray} (hd : Nat.blt d N = true) (hx : ev (lk tm) x = some (.one false [.d (.v (.string a))])) (hy : ev (lk tm) y = some (.one false [.d (.v (.string b))])) (h : W P lend N ops dr cs R (i + 1) os ((d, .one false [.d (.v (.bool (!(lessS a b || decide (a = b)))))]) :: tm) bo nx (ns ++ [⟨opKeys (lk tm) (lko bo) ⟨some d, .binOp .gtr t x y ty', ty, pos, af, none⟩, []⟩])) : W P lend N ops dr cs R i (⟨some d, .binOp .gtr t x y ty', ty, pos, af, none⟩ :: os) tm bo nx ns :=
 W.plain hd (fun lt hlt => plain2 rfl ((hlt x (by simp [Op.operands])).trans hx) ((hlt y (by simp [Op.operands])).trans hy) (by unfold eqGuard; rfl) (by
  simp only [binOp, Op.stringOp, sv_seq]; rfl) rfl) (fun _ _ _ _ _ _ _ h => orE_some h) h
theorem boxTo_mpw {lb : Key → Option Box} {f : Key → Key} {l l' : List ByteArray} (h : l' = l) : boxTo lb f (.mp (mEnts 0 l).toArray l.length) (.mp (mEnts 0 l').toArray l'.length) := by subst h; rfl
end
theorem mp_sb : MpI Tryz.prog 210 9 4 := ⟨by kernel_rfl, by kernel_rfl, by kernel_rfl⟩
end Go.Proofs.YtgehafnodibhpaaGreatDoor

