/- Rules of runs and contracts of functions, for the claims of one seat. -/
import Derived.Test.YtjpdemikmdfonaaGreatDoorFA11
namespace Go.Proofs.YtjpdemikmdfonaaGreatDoor
open Go Go.RowKit
set_option linter.unusedSimpArgs false
set_option linter.unusedVariables false
def nilA : ActD := ⟨0, nilE, 0, 0, 0, 0, 0⟩
def sigRow (s : SigD) : List D := [.v (.int .i64 s.kind), .v (.int .i64 s.token), .v (.int .i64 s.round), .v (.int .i64 s.replica), .v (.int .i64 s.ver), .v (.bool s.pass), .v (.int .i64 s.table)]
def dSigs (l : List SigD) : List (List D) := l.map sigRow
structure RepD where
 svc : Int
 ver : Int
 up : Bool
 rnd : Int
def repRow (r : RepD) : List D := [.v (.int .i64 r.svc), .v (.int .i64 r.ver), .v (.bool r.up), .v (.int .i64 r.rnd)]
def dReps (l : List RepD) : List (List D) := l.map repRow
def dCtls (l : List CtlD) : List (List D) := l.map ctlRow
theorem rowsG {α : Type} {f : α → List D} {xs : List α} {n : Int} (d : α) (h : 0 ≤ n ∧ n < xs.length) : 0 ≤ n ∧ (xs.map f)[n.toNat]? = some (f (xs.getD n.toNat d)) := ⟨h.1, row_get h⟩
theorem rowsN {α : Type} {f : α → List D} {xs : List α} {n : Nat} (d : α) (h : n < xs.length) : (xs.map f)[n]? = some (f (xs.getD n d)) := row_getN h
theorem rowsZ {α : Type} {f : α → List D} {xs : List α} {n : Int} (d : α) (h : 0 ≤ n ∧ n < xs.length) : (xs.map f)[n.toNat]? = some (f (xs.getD n.toNat d)) := row_get h
theorem gInts {xs : List (Int)} {n : Int} (h : 0 ≤ n ∧ n < xs.length) : 0 ≤ n ∧ (dInts xs)[n.toNat]? = some ([.v (.int .i64 (xs.getD n.toNat 0))]) := rowsG 0 h
theorem gIntsN {xs : List (Int)} {k : Nat} (h : k < xs.length) : 0 ≤ (k : Int) ∧ (dInts xs)[(k : Int).toNat]? = some ([.v (.int .i64 (xs.getD k 0))]) := ⟨Int.natCast_nonneg k, rowsN 0 h⟩
theorem zInts {xs : List (Int)} {n : Int} (h : 0 ≤ n ∧ n < xs.length) : (dInts xs)[n.toNat]? = some ([.v (.int .i64 (xs.getD n.toNat 0))]) := rowsZ 0 h
theorem lInts {xs : List (Int)} : (dInts xs).length = xs.length := List.length_map _
theorem aInts {xs ys : List (Int)} : dInts xs ++ dInts ys = dInts (xs ++ ys) := List.map_append.symm
theorem sInts {xs : List (Int)} {x : Int} : dInts xs ++ [[.v (.int .i64 x)]] = dInts (xs ++ [x]) := aInts (ys := [x])
theorem oInts {x : Int} : [[.v (.int .i64 x)]] = dInts [x] := rfl
theorem wInts {xs : List (Int)} {j : Nat} {x : Int} : (dInts xs).set j ([.v (.int .i64 x)]) = dInts (xs.set j x) := List.map_set.symm
theorem rInts {n : Nat} {x : Int} : List.replicate n ([.v (.int .i64 x)]) = dInts (List.replicate n x) := by unfold dInts; rw [List.map_replicate]
theorem lSets {xs : List (Int)} : (dSets xs).length = xs.length := List.length_map _
theorem gBools {xs : List (Bool)} {n : Int} (h : 0 ≤ n ∧ n < xs.length) : 0 ≤ n ∧ (dBools xs)[n.toNat]? = some ([.v (.bool (xs.getD n.toNat false))]) := rowsG false h
theorem gBoolsN {xs : List (Bool)} {k : Nat} (h : k < xs.length) : 0 ≤ (k : Int) ∧ (dBools xs)[(k : Int).toNat]? = some ([.v (.bool (xs.getD k false))]) := ⟨Int.natCast_nonneg k, rowsN false h⟩
theorem zBools {xs : List (Bool)} {n : Int} (h : 0 ≤ n ∧ n < xs.length) : (dBools xs)[n.toNat]? = some ([.v (.bool (xs.getD n.toNat false))]) := rowsZ false h
theorem lBools {xs : List (Bool)} : (dBools xs).length = xs.length := List.length_map _
theorem aBools {xs ys : List (Bool)} : dBools xs ++ dBools ys = dBools (xs ++ ys) := List.map_append.symm
theorem sBools {xs : List (Bool)} {x : Bool} : dBools xs ++ [[.v (.bool x)]] = dBools (xs ++ [x]) := aBools (ys := [x])
theorem oBools {x : Bool} : [[.v (.bool x)]] = dBools [x] := rfl
theorem wBools {xs : List (Bool)} {j : Nat} {x : Bool} : (dBools xs).set j ([.v (.bool x)]) = dBools (xs.set j x) := List.map_set.symm
theorem rBools {n : Nat} {x : Bool} : List.replicate n ([.v (.bool x)]) = dBools (List.replicate n x) := by unfold dBools; rw [List.map_replicate]
theorem gMat {xs : List (List Bool)} {n : Int} (h : 0 ≤ n ∧ n < xs.length) : 0 ≤ n ∧ (dMat xs)[n.toNat]? = some ([.sl 1 (dBools (xs.getD n.toNat []))]) := rowsG [] h
theorem gMatN {xs : List (List Bool)} {k : Nat} (h : k < xs.length) : 0 ≤ (k : Int) ∧ (dMat xs)[(k : Int).toNat]? = some ([.sl 1 (dBools (xs.getD k []))]) := ⟨Int.natCast_nonneg k, rowsN [] h⟩
theorem zMat {xs : List (List Bool)} {n : Int} (h : 0 ≤ n ∧ n < xs.length) : (dMat xs)[n.toNat]? = some ([.sl 1 (dBools (xs.getD n.toNat []))]) := rowsZ [] h
theorem lMat {xs : List (List Bool)} : (dMat xs).length = xs.length := List.length_map _
theorem aMat {xs ys : List (List Bool)} : dMat xs ++ dMat ys = dMat (xs ++ ys) := List.map_append.symm
theorem sMat {xs : List (List Bool)} {x : List Bool} : dMat xs ++ [[.sl 1 (dBools x)]] = dMat (xs ++ [x]) := aMat (ys := [x])
theorem oMat {x : List Bool} : [[.sl 1 (dBools x)]] = dMat [x] := rfl
theorem wMat {xs : List (List Bool)} {j : Nat} {x : List Bool} : (dMat xs).set j ([.sl 1 (dBools x)]) = dMat (xs.set j x) := List.map_set.symm
theorem gTabs {xs : List (Tab)} {n : Int} (h : 0 ≤ n ∧ n < xs.length) : 0 ≤ n ∧ (dTabs xs)[n.toNat]? = some (tabRow (xs.getD n.toNat nilT)) := rowsG nilT h
theorem gTabsN {xs : List (Tab)} {k : Nat} (h : k < xs.length) : 0 ≤ (k : Int) ∧ (dTabs xs)[(k : Int).toNat]? = some (tabRow (xs.getD k nilT)) := ⟨Int.natCast_nonneg k, rowsN nilT h⟩
theorem zTabs {xs : List (Tab)} {n : Int} (h : 0 ≤ n ∧ n < xs.length) : (dTabs xs)[n.toNat]? = some (tabRow (xs.getD n.toNat nilT)) := rowsZ nilT h
theorem lTabs {xs : List (Tab)} : (dTabs xs).length = xs.length := List.length_map _
theorem wTabs {xs : List (Tab)} {j : Nat} {x : Tab} : (dTabs xs).set j (tabRow x) = dTabs (xs.set j x) := List.map_set.symm
theorem lMixes {xs : List (MixD)} : (dMixes xs).length = xs.length := List.length_map _
theorem lSteps {xs : List (StepD)} : (dSteps xs).length = xs.length := List.length_map _
theorem lNodes {xs : List (NodeD)} : (dNodes xs).length = xs.length := List.length_map _
theorem lConfs {xs : List (ConfD)} : (dConfs xs).length = xs.length := List.length_map _
theorem lEnts {xs : List (EntD)} : (dEnts xs).length = xs.length := List.length_map _
theorem lActs {xs : List (ActD)} : (dActs xs).length = xs.length := List.length_map _
theorem lCtls {xs : List (CtlD)} : (dCtls xs).length = xs.length := List.length_map _
theorem lSigs {xs : List (SigD)} : (dSigs xs).length = xs.length := List.length_map _
theorem lReps {xs : List (RepD)} : (dReps xs).length = xs.length := List.length_map _
end Go.Proofs.YtjpdemikmdfonaaGreatDoor

namespace Go.Proofs.YtjpdemikmdfonaaGreatDoor
open Go Go.RowKit
structure SymD where
 id : Int
 name : ByteArray
structure RawD where
 id : Int
 data : ByteArray
inductive ValD where
 | mk (kind : Int) (b : Bool) (n : Int) (s : ByteArray) (id : Int) (keys items : List ValD) (rest : List RawD)
namespace ValD
def kind : ValD → Int | .mk k _ _ _ _ _ _ _ => k
def b : ValD → Bool | .mk _ b _ _ _ _ _ _ => b
def n : ValD → Int | .mk _ _ n _ _ _ _ _ => n
def s : ValD → ByteArray | .mk _ _ _ s _ _ _ _ => s
def id : ValD → Int | .mk _ _ _ _ i _ _ _ => i
def keys : ValD → List ValD | .mk _ _ _ _ _ l _ _ => l
def items : ValD → List ValD | .mk _ _ _ _ _ _ l _ => l
def rest : ValD → List RawD | .mk _ _ _ _ _ _ _ l => l
end ValD
def nilV : ValD := .mk 0 false 0 ByteArray.empty 0 [] [] []
structure MemD where
 id : Int
 name : ByteArray
 typ : Int
 crit : Bool
 has : Bool
 dflt : ValD
structure TypD where
 kind : Int
 name : ByteArray
 low : Int
 high : Int
 max : Int
 syms : List SymD
 mems : List MemD
 key : Int
 elem : Int
 opn : Bool
structure MsgD where
 id : Int
 name : ByteArray
 typ : Int
structure EdgeD where
 frm : Int
 send : Bool
 label : Int
 to : Int
structure AutD where
 states : Int
 start : Int
 edges : List EdgeD
structure SesD where
 name : ByteArray
 msgs : List MsgD
 auto : AutD
structure CallD where
 name : ByteArray
 req : Int
 rep : Int
structure TopD where
 name : ByteArray
 typ : Int
structure VerD where
 name : ByteArray
 types : List TypD
 calls : List CallD
 sess : List SesD
 tops : List TopD
def symRow (x : SymD) : List D := [.v (.int .i64 x.id), .v (.string x.name)]
def rawRow (x : RawD) : List D := [.v (.int .i64 x.id), .v (.string x.data)]
def dSyms (l : List SymD) : List (List D) := l.map symRow
def dRaws (l : List RawD) : List (List D) := l.map rawRow
mutual
def valRow : ValD → List D
 | .mk k b n s i ks is rs => [.v (.int .i64 k), .v (.bool b), .v (.int .i64 n), .v (.string s), .v (.int .i64 i), .sl 8 (valRows ks), .sl 8 (valRows is), .sl 2 (dRaws rs)]
def valRows : List ValD → List (List D)
 | [] => []
 | v :: r => valRow v :: valRows r
end
def dVals (l : List ValD) : List (List D) := l.map valRow
theorem valRows_eq : ∀ l : List ValD, valRows l = dVals l
 | [] => by unfold valRows; rfl
 | v :: r => by unfold valRows; rw [valRows_eq r]; rfl
theorem valRow_eq (v : ValD) : valRow v = [.v (.int .i64 v.kind), .v (.bool v.b), .v (.int .i64 v.n), .v (.string v.s), .v (.int .i64 v.id), .sl 8 (dVals v.keys), .sl 8 (dVals v.items), .sl 2 (dRaws v.rest)] := by
 cases v
 unfold valRow
 rw [valRows_eq, valRows_eq]
 rfl
def valRow1 (v : ValD) : List D := [.v (.int .i64 v.kind), .v (.bool v.b), .v (.int .i64 v.n), .v (.string v.s), .v (.int .i64 v.id), .sl 8 (dVals v.keys), .sl 8 (dVals v.items), .sl 2 (dRaws v.rest)]
theorem dVals_eq (l : List ValD) : dVals l = l.map valRow1 := by
 unfold dVals
 rw [show valRow = valRow1 from funext valRow_eq]
def dStrs (l : List ByteArray) : List (List D) := l.map fun x => [.v (.string x)]
def memRow (x : MemD) : List D := [.v (.int .i64 x.id), .v (.string x.name), .v (.int .i64 x.typ), .v (.bool x.crit), .v (.bool x.has), .v (.int .i64 x.dflt.kind), .v (.bool x.dflt.b), .v (.int .i64 x.dflt.n), .v (.string x.dflt.s), .v (.int .i64 x.dflt.id), .sl 8 (dVals x.dflt.keys), .sl 8 (dVals x.dflt.items), .sl 2 (dRaws x.dflt.rest)]
def dMems (l : List MemD) : List (List D) := l.map memRow
def typRow (x : TypD) : List D := [.v (.int .i64 x.kind), .v (.string x.name), .v (.int .i64 x.low), .v (.int .i64 x.high), .v (.int .i64 x.max), .sl 2 (dSyms x.syms), .sl 13 (dMems x.mems), .v (.int .i64 x.key), .v (.int .i64 x.elem), .v (.bool x.opn)]
def dTyps (l : List TypD) : List (List D) := l.map typRow
def msgRow (x : MsgD) : List D := [.v (.int .i64 x.id), .v (.string x.name), .v (.int .i64 x.typ)]
def dMsgs (l : List MsgD) : List (List D) := l.map msgRow
def edgeRow (x : EdgeD) : List D := [.v (.int .i64 x.frm), .v (.bool x.send), .v (.int .i64 x.label), .v (.int .i64 x.to)]
def dEdges (l : List EdgeD) : List (List D) := l.map edgeRow
def sesRow (x : SesD) : List D := [.v (.string x.name), .sl 3 (dMsgs x.msgs), .v (.int .i64 x.auto.states), .v (.int .i64 x.auto.start), .sl 4 (dEdges x.auto.edges)]
def dSess (l : List SesD) : List (List D) := l.map sesRow
def callRow (x : CallD) : List D := [.v (.string x.name), .v (.int .i64 x.req), .v (.int .i64 x.rep)]
def dCalls (l : List CallD) : List (List D) := l.map callRow
def topRow (x : TopD) : List D := [.v (.string x.name), .v (.int .i64 x.typ)]
def dTops (l : List TopD) : List (List D) := l.map topRow
def valC (v : ValD) : List C := [.d (.v (.int .i64 v.kind)), .d (.v (.bool v.b)), .d (.v (.int .i64 v.n)), .d (.v (.string v.s)), .d (.v (.int .i64 v.id)), .d (.sl 8 (dVals v.keys)), .d (.sl 8 (dVals v.items)), .d (.sl 2 (dRaws v.rest))]
def typC (x : TypD) : List C := [.d (.v (.int .i64 x.kind)), .d (.v (.string x.name)), .d (.v (.int .i64 x.low)), .d (.v (.int .i64 x.high)), .d (.v (.int .i64 x.max)), .d (.sl 2 (dSyms x.syms)), .d (.sl 13 (dMems x.mems)), .d (.v (.int .i64 x.key)), .d (.v (.int .i64 x.elem)), .d (.v (.bool x.opn))]
def sesC (x : SesD) : List C := [.d (.v (.string x.name)), .d (.sl 3 (dMsgs x.msgs)), .d (.v (.int .i64 x.auto.states)), .d (.v (.int .i64 x.auto.start)), .d (.sl 4 (dEdges x.auto.edges))]
def autC (x : AutD) : List C := [.d (.v (.int .i64 x.states)), .d (.v (.int .i64 x.start)), .d (.sl 4 (dEdges x.edges))]
def verC (v : VerD) : List C := [.d (.v (.string v.name)), .d (.sl 10 (dTyps v.types)), .d (.sl 3 (dCalls v.calls)), .d (.sl 5 (dSess v.sess)), .d (.sl 2 (dTops v.tops))]
def schC (l : List TypD) : List C := [.d (.sl 10 (dTyps l))]
def edgeC (x : EdgeD) : List C := [.d (.v (.int .i64 x.frm)), .d (.v (.bool x.send)), .d (.v (.int .i64 x.label)), .d (.v (.int .i64 x.to))]
def msgC (x : MsgD) : List C := [.d (.v (.int .i64 x.id)), .d (.v (.string x.name)), .d (.v (.int .i64 x.typ))]
end Go.Proofs.YtjpdemikmdfonaaGreatDoor

namespace Go.Proofs.YtjpdemikmdfonaaGreatDoor
open Go Go.RowKit
set_option linter.unusedSimpArgs false
set_option linter.unusedVariables false
section
variable {P : Program} {N : Nat} {cs : List Code} {R : AX → St → Prop} {tm : List (Nat × AV)} {bo : BO} {nx : Nat}
theorem JL.fzW {c : Code} {q : Key} {ty : TypeId} {sz : Nat} {rows : List (List D)} (hq : lko bo q = some (.sl ty sz rows)) (hr : JL P N (c :: cs) ⟨tm, clean ((q, some (.fz sz rows)) :: bo), nx⟩ R) : JL P N (c :: cs) ⟨tm, clean bo, nx⟩ R := by
 refine JL.sub (st' := ⟨tm, clean ((q, some (.fz sz rows)) :: bo), nx⟩) (fun V X Z w0 a w hh => ?_) hr
 obtain ⟨ρ, hR⟩ := Sub.freeze (N := N) (st := ⟨tm, clean bo, nx⟩) [q] V X Z w0 a w hh
 refine ⟨ρ, ?_⟩
 have hf : ∀ (l : List (Key × Box)) (p : Key), lk l q = some (.sl ty sz rows) → lk (freezeB [q] l) p = if p = q then some (.fz sz rows) else lk l p := by
  intro l p hl
  induction l with
  | nil => cases hl
  | cons x r ih =>
   obtain ⟨k, b⟩ := x
   have hl' : (if q = k then some b else lk r q) = some (.sl ty sz rows) := hl
   by_cases e : q = k
   ·subst e
    rw [if_pos rfl] at hl'
    cases hl'
    show (if p = q then _ else lk (freezeB [q] r) p) = _
    by_cases e2 : p = q
    ·rw [if_pos e2, if_pos e2]; simp
    ·rw [if_neg e2, if_neg e2]
     show lk (freezeB [q] r) p = (if p = q then _ else lk r p)
     rw [if_neg e2]
     clear ih hR hl hh
     induction r with
     | nil => rfl
     | cons y r ih2 =>
      obtain ⟨k2, b2⟩ := y
      show (if p = k2 then _ else lk (freezeB [q] r) p) = (if p = k2 then some b2 else lk r p)
      by_cases e3 : p = k2
      ·rw [if_pos e3, if_pos e3]
       subst e3
       cases b2 <;> simp [e2]
      ·rw [if_neg e3, if_neg e3]; exact ih2
   ·rw [if_neg e] at hl'
    show (if p = k then _ else lk (freezeB [q] r) p) = _
    by_cases e2 : p = k
    ·rw [if_pos e2]
     subst e2
     rw [if_neg (fun h => e h.symm)]
     show _ = (if p = p then some b else lk r p)
     rw [if_pos rfl]
     cases b <;> simp [Ne.symm e]
    ·rw [if_neg e2, ih hl']
     show _ = if p = q then _ else (if p = k then some b else lk r p)
     rw [if_neg e2]
 have e : lk (freezeB [q] (clean bo)) = lk (clean ((q, some (.fz sz rows)) :: bo)) := by
  funext p
  rw [hf _ p (by rw [lk_clean]; exact hq)]
  rfl
 have hR' : Rel V X Z w0 N ρ (fun q => q.2 < nx) (lk tm) (lk (freezeB [q] (clean bo))) a w := hR
 rw [e] at hR'
 exact hR'
theorem JL.cellBW {c : Code} {q0 q : Key} {j : Nat} {ty0 : TypeId} {sz : Nat} {cs1 cs2 : List C} {rows : List (List D)} (h : lko bo q0 = some (.st ty0 cs1)) (hj : cs1[j]? = some (.own q)) (hq : lko bo q = some (.fz sz rows)) (hs : cs1.set j (.d (.sl sz rows)) = cs2)
    (hr : JL P N (c :: cs) ⟨tm, clean ((q0, some (.st ty0 cs2)) :: bo), nx⟩ R) : JL P N (c :: cs) ⟨tm, clean bo, nx⟩ R := by
 subst hs
 refine JL.sub (st' := ⟨tm, clean ((q0, some (.st ty0 (cs1.set j (.d (.sl sz rows))))) :: bo), nx⟩) (fun V X Z w0 a w hh => ?_) hr
 obtain ⟨ρ, hR⟩ := hh
 refine ⟨ρ, ?_⟩
 have hlk : ∀ p, lk (clean ((q0, some (.st ty0 (cs1.set j (.d (.sl sz rows))))) :: bo)) p = if p = q0 then some (.st ty0 (cs1.set j (.d (.sl sz rows)))) else lk (clean bo) p := fun p => rfl
 have hlive : ∀ (p : Key) (box : Box) (b : Nat), lk (clean ((q0, some (.st ty0 (cs1.set j (.d (.sl sz rows))))) :: bo)) p = some box → box.live = true → (ρ p).g = some b → ∃ box0, lk (clean bo) p = some box0 ∧ box0.live = true ∧ (ρ p).g = some b := fun p box b hp hl hg => by
  rw [hlk] at hp
  by_cases e : p = q0
  ·subst e; exact ⟨_, (lk_clean bo p).trans h, rfl, hg⟩
  ·rw [if_neg e] at hp; exact ⟨box, hp, hl, hg⟩
 have hR : Rel V X Z w0 N ρ (fun q => q.2 < nx) (lk tm) (lk (clean bo)) a w := hR
 refine hR.conv (fun _ _ => rfl) (fun _ hq => hq) hlive (fun t av ht => .inl ht) (fun p box hp => ?_)
 have hp' := hp
 rw [hlk] at hp'
 by_cases e : p = q0
 ·subst e
  rw [if_pos rfl] at hp'
  cases hp'
  obtain ⟨h1, b0, vs, h2, h3, h4⟩ := hR.bx p _ ((lk_clean bo p).trans h)
  obtain ⟨v, hv, hok, rfl⟩ := h4.get hj
  have him : ∀ b, b < w.heap.size → Im V ρ (lk (clean bo)) b → Im V ρ (lk (clean ((p, some (.st ty0 (cs1.set j (.d (.sl sz rows))))) :: bo))) b := fun b _ hi => ⟨hi.1, fun q box hq hl hg => by
   obtain ⟨x, k1, k2, k3⟩ := hlive q box b hq hl hg
   exact hi.2 q x k1 k2 k3⟩
  refine .inr ⟨h1, b0, vs, h2, h3, h4.setv (fun c v hc => hc.keep (Keep.refl _ _) him (fun _ _ => rfl) (fun _ h => h)) hv ?_⟩
  exact Rd.mono (hR.bx q _ ((lk_clean bo q).trans hq)).2 him
 ·rw [if_neg e] at hp'
  exact .inl hp'
theorem JL.shutBW {c : Code} (q0 : Key) (j : Nat) {q : Key} {ty ty0 : TypeId} {sz : Nat} {cs1 cs2 : List C} {rows : List (List D)} (h : lko bo q0 = some (.st ty0 cs1)) (hj : cs1[j]? = some (.own q)) (hq : lko bo q = some (.sl ty sz rows)) (hs : cs1.set j (.d (.sl sz rows)) = cs2)
    (hr : JL P N (c :: cs) ⟨tm, clean ((q0, some (.st ty0 cs2)) :: (q, some (.fz sz rows)) :: bo), nx⟩ R) : JL P N (c :: cs) ⟨tm, clean bo, nx⟩ R := by
 have hne : q0 ≠ q := fun e => by rw [e, hq] at h; cases h
 refine JL.fzW hq (JL.cellBW (q0 := q0) (q := q) (j := j) (ty0 := ty0) (cs1 := cs1) ?_ hj ?_ hs hr)
 ·show (match (if q0 = q then some (some (Box.fz sz rows)) else lk bo q0) with | some ob => ob | none => none) = _
  rw [if_neg hne]; exact h
 ·show (match (if q = q then some (some (Box.fz sz rows)) else lk bo q) with | some ob => ob | none => none) = _
  rw [if_pos rfl]
def outO (bx : List (Key × Box)) (vs : List (Bool × List C)) (args : List Arg) : Option ARes :=
 match outVals true (lk bx) vs with
 | some (vals, ks) => match outIos (lk (freezeB ks bx)) 0 args with
  | some ios => match keepB (freezeB ks bx) (leadK (freezeB ks bx) 4 (vals.flatMap (fun (_, cs) => cs.flatMap keysC) ++ ios.flatMap fun cs => cs.flatMap keysC)) with
   | some b => some { vals := vals, ios := ios, bx := b }
   | none => none
  | none => none
 | none => none
inductive FinO (P : Program) (fn : Func) (args : List Arg) (r : ARes) (ax : AX) (st : St) : Prop
 | mk (h : fnEndZ P true fn args r ax st)
theorem endO {fn : Func} {args : List Arg} {vs : List (Bool × List C)} {r r0 : ARes} {l : List ResultVar} (hfr : fn.results = l.toArray) (hr : ResW P tm bo l vs) (h : outO (clean bo) vs args = some r0) (hz : resZ r0 r) : FinO P fn args r .ret ⟨tm, clean bo, nx⟩ := by
 constructor
 have hr : ResW P tm bo fn.results.toList vs := by rw [hfr, List.toList_toArray]; exact hr
 show match outR P true fn args ⟨tm, clean bo, nx⟩ with | some r0 => resZ r0 r | none => False
 have h4 : outR P true fn args ⟨tm, clean bo, nx⟩ = some r0 := by
  unfold outR
  simp only [hr.res]
  unfold outO at h
  split at h
  ·rename_i vals ks h1
   simp only [h1]
   split at h
   ·rename_i ios h2
    simp only [h2]
    split at h
    ·rename_i b h3
     cases h
     simp only [h3]
    ·cases h
   ·cases h
  ·cases h
 rw [h4]
 exact hz
theorem cellsZ_self : ∀ cs : List C, cellsZ cs cs
 | [] => trivial
 | _ :: r => ⟨.inl rfl, cellsZ_self r⟩
theorem valsZ_self : ∀ vs : List (Bool × List C), valsZ vs vs
 | [] => trivial
 | x :: r => ⟨⟨rfl, cellsZ_self _⟩, valsZ_self r⟩
theorem endO1 {fn : Func} {args : List Arg} {vs : List (Bool × List C)} {r : ARes} {l : List ResultVar} (hfr : fn.results = l.toArray) (hr : ResW P tm bo l vs) (h : outO (clean bo) vs args = some r) : FinO P fn args r .ret ⟨tm, clean bo, nx⟩ := endO hfr hr h ⟨valsZ_self _, rfl, rfl⟩
theorem startO {f : FuncId} {fn : Func} {body : Code} {args : List Arg} {bxs : List (Key × Box)} {r : ARes} (bo : BO) (hf : P.funcs[f]? = some fn) (hbody : fn.body = some body) (hN : fn.ntmps = N) (hp : decide (fn.params.size ≤ args.length) = true) (hn : decide (args.length ≤ N) = true) (hbo : argBx 0 args ++ bxs = clean bo) (htm : argTm 0 args = tm)
    (h : JL P N [body] ⟨tm, clean bo, 1⟩ (FinO P fn args r)) : FnSound P f args bxs r := by
 subst htm
 refine fn_of_JLZ (own := true) hf hbody hN hp hn ?_
 rw [hbo]
 rw [JL_cons] at h ⊢
 refine J.mono h fun ax s hs => ?_
 cases ax with
 | normal => have hs' : JL P N [] s (FinO P fn args r) := hs; exact (show JL P N [] s (fnEndZ P true fn args r) from JL.nil (JL.out hs').1)
 | exit i => exact hs.1
 | ret => exact hs.1
end
section
variable {P : Program} {lend : FuncId → Bool} {N : Nat} {ops : Array Oper} {dr : Bool} {cs : List Code} {R : AX → St → Prop} {i : Nat} {os : List Oper} {tm : List (Nat × AV)} {bo : BO} {nx : Nat} {ns : List Note} {d : Nat} {pos : String} {ty : TypeId} {af : Array Edge}
theorem W.callIO {g : FuncId} {args : Array Operand} {tyq : Array TypeId} {xa : List Arg} {qs : List (Key × TypeId)} {bs : List (Key × Key × Box)} {bx0 : List (Key × Box)} {r : ARes} {av : AV} {up : BO} (hd : Nat.blt d N = true) (hbod : BoI P g) (hK : FnSound P g xa bx0 r)
    (hna : argsOf (onlyT ⟨some d, .call ⟨.value (.func g), args, tyq⟩, ty, pos, af, none⟩ (lk tm)) (onlyB (opKeys (lk tm) (lko bo) ⟨some d, .call ⟨.value (.func g), args, tyq⟩, ty, pos, af, none⟩) (lko bo)) (lend g) args.toList = none)
    (ha : ioArgs (onlyT ⟨some d, .call ⟨.value (.func g), args, tyq⟩, ty, pos, af, none⟩ (lk tm)) (onlyB (opKeys (lk tm) (lko bo) ⟨some d, .call ⟨.value (.func g), args, tyq⟩, ty, pos, af, none⟩) (lko bo)) 0 args.toList = some (xa, [], qs, bs)) (hbs : bs.map (·.2) = bx0)
    (hn1 : nodup ((dictOf xa qs bs).map (·.1)) = true) (hn2 : nodup ((dictOf xa qs bs).map (·.2)) = true) (hz : ((dictOf xa qs bs).all fun x => x.1.2 == 0) = true) (hio : r.ios.length = qs.length) (hlen : Nat.ble r.bx.length 64 = true) (hcl : r.closed = true) (hnd : nodup ((ioBx 0 xa r.ios ++ r.bx).map (·.1)) = true) (hok : (r.bx.all fun x => x.2.okRes) = true)
    (hav : resAV (renK (keyAt i nx) r.bx 0) r.vals = av) (hup : putIo (renK (keyAt i nx) r.bx 0) qs r.ios ++ (takeBx (renK (keyAt i nx) r.bx 0) (keyAt i nx) r.bx 0 ++ bs.map (fun x => (x.1, none))) = up)
    (h : W P lend N ops dr cs R (i + 1) os ((d, av) :: tm) (up ++ bo) nx (ns ++ [⟨opKeys (lk tm) (lko bo) ⟨some d, .call ⟨.value (.func g), args, tyq⟩, ty, pos, af, none⟩, up.map (·.1)⟩])) : W P lend N ops dr cs R i (⟨some d, .call ⟨.value (.func g), args, tyq⟩, ty, pos, af, none⟩ :: os) tm bo nx ns := by
 subst hav hup hbs
 obtain ⟨hbod⟩ := hbod
 refine W.eff (call := fun f a b => open Classical in if f = g ∧ a = xa ∧ b = bs.map (·.2) then some { r with kp := false } else none) (fun f a b r' he => ?_) rfl (fun k hk => by cases hk; exact Nat.le_of_ble_eq_true hd) ?_ (updT_cons _ _ _) (lko_app _ _) h
 ·simp only at he
  split at he
  ·rename_i hc
   obtain ⟨rfl, rfl, rfl⟩ := hc
   cases he
   exact hK
  ·cases he
 ·simp only [effOf]
  unfold effCall effCall0
  simp only [calleeOf, ev, Array.isEmpty_empty, Bool.and_self, if_true, hbod, List.isEmpty_nil, Bool.not_true, Bool.or_false, List.map_nil]
  rw [hna]
  simp only [ha]
  unfold effIo
  rw [if_pos ⟨hn1, hn2, rfl, hz⟩]
  simp only [and_self, if_true]
  rw [if_pos ⟨hio, Nat.le_of_ble_eq_true hlen, hcl, hnd, hok⟩]
  simp only [shut, List.filter_nil, List.filterMap_nil, List.append_nil]
end
end Go.Proofs.YtjpdemikmdfonaaGreatDoor

namespace Go.Proofs.YtjpdemikmdfonaaGreatDoor
open Go Go.RowKit
set_option linter.unusedSimpArgs false
set_option linter.unusedVariables false
section
variable {P : Program} {lend : FuncId → Bool} {N : Nat} {ops : Array Oper} {dr : Bool} {cs : List Code} {R : AX → St → Prop}
variable {i : Nat} {os : List Oper} {tm : List (Nat × AV)} {bo : BO} {nx : Nat} {ns : List Note} {d : Nat} {pos : String} {ty : TypeId} {af : Array Edge}
theorem W.maxI {t1 t2 : TypeId} {x y : Operand} {k k' : IntKind} {a b m : Int} (hd : Nat.blt d N = true) (hx : ev (lk tm) x = some (.one false [.d (.v (.int k a))])) (hy : ev (lk tm) y = some (.one false [.d (.v (.int k' b))])) (hm : (if b > a then b else a) = m)
    (h : W P lend N ops dr cs R (i + 1) os ((d, .one false [.d (.v (.int k m))]) :: tm) bo nx (ns ++ [⟨opKeys (lk tm) (lko bo) ⟨some d, .call ⟨.builtin .max, #[x, y], #[t1, t2]⟩, ty, pos, af, none⟩, []⟩])) : W P lend N ops dr cs R i (⟨some d, .call ⟨.builtin .max, #[x, y], #[t1, t2]⟩, ty, pos, af, none⟩ :: os) tm bo nx ns := by
 subst hm
 refine W.plain hd (fun lt hlt => ?_) (fun _ _ _ _ _ _ _ h => h) h
 have e1 := (hlt x (by simp [Op.operands, Call.operands])).trans hx
 have e2 := (hlt y (by simp [Op.operands, Call.operands])).trans hy
 unfold effPlain
 simp only [plainOp, Op.operands, Call.operands, Array.toList_append, Array.append_empty, Array.empty_append, List.nil_append, List.all_cons, List.all_nil, e1, e2, Option.bind_some, conV, Option.isSome_some, Bool.and_true, Bool.true_and, if_true]
 unfold execOp
 simp [e1, e2, conV, resolve, invoke, builtin, Builtin.max_, Builtin.max2, semVal_bind, semVal_pure, semVal_map, constAV, cellC, scal]
theorem W.minI {t1 t2 : TypeId} {x y : Operand} {k k' : IntKind} {a b m : Int} (hd : Nat.blt d N = true) (hx : ev (lk tm) x = some (.one false [.d (.v (.int k a))])) (hy : ev (lk tm) y = some (.one false [.d (.v (.int k' b))])) (hm : (if b < a then b else a) = m)
    (h : W P lend N ops dr cs R (i + 1) os ((d, .one false [.d (.v (.int k m))]) :: tm) bo nx (ns ++ [⟨opKeys (lk tm) (lko bo) ⟨some d, .call ⟨.builtin .min, #[x, y], #[t1, t2]⟩, ty, pos, af, none⟩, []⟩])) : W P lend N ops dr cs R i (⟨some d, .call ⟨.builtin .min, #[x, y], #[t1, t2]⟩, ty, pos, af, none⟩ :: os) tm bo nx ns := by
 subst hm
 refine W.plain hd (fun lt hlt => ?_) (fun _ _ _ _ _ _ _ h => h) h
 have e1 := (hlt x (by simp [Op.operands, Call.operands])).trans hx
 have e2 := (hlt y (by simp [Op.operands, Call.operands])).trans hy
 unfold effPlain
 simp only [plainOp, Op.operands, Call.operands, Array.toList_append, Array.append_empty, Array.empty_append, List.nil_append, List.all_cons, List.all_nil, e1, e2, Option.bind_some, conV, Option.isSome_some, Bool.and_true, Bool.true_and, if_true]
 unfold execOp
 simp [e1, e2, conV, resolve, invoke, builtin, Builtin.min_, Builtin.min2, semVal_bind, semVal_pure, semVal_map, constAV, cellC, scal]
end
end Go.Proofs.YtjpdemikmdfonaaGreatDoor

namespace Go.Proofs.YtjpdemikmdfonaaGreatDoor
open Go Go.RowKit
set_option linter.unusedSimpArgs false
set_option linter.unusedVariables false
section
variable {P : Program} {lend : FuncId → Bool} {N : Nat} {ops : Array Oper} {dr : Bool} {cs : List Code} {R : AX → St → Prop}
variable {i : Nat} {os : List Oper} {tm : List (Nat × AV)} {bo : BO} {nx : Nat} {ns : List Note} {d : Nat} {pos : String} {ty : TypeId} {af : Array Edge}
end
end Go.Proofs.YtjpdemikmdfonaaGreatDoor

namespace Go.Proofs.YtjpdemikmdfonaaGreatDoor
open Go Go.RowKit
set_option linter.unusedSimpArgs false
set_option linter.unusedVariables false
section
variable {P : Program} {lend : FuncId → Bool} {N : Nat} {ops : Array Oper} {dr : Bool} {cs : List Code} {R : AX → St → Prop} {i : Nat} {os : List Oper} {tm : List (Nat × AV)} {bo : BO} {nx : Nat} {ns : List Note} {d : Nat} {pos : String} {ty : TypeId} {af : Array Edge}
end
section
variable {P : Program} {lend : FuncId → Bool} {N : Nat} {ops : Array Oper} {dr : Bool} {cs : List Code} {R : AX → St → Prop} {i : Nat} {os : List Oper} {tm : List (Nat × AV)} {bo : BO} {nx : Nat} {ns : List Note} {d : Nat} {pos : String} {ty : TypeId} {af : Array Edge}
theorem W.callV {f : Operand} {g : FuncId} {args : Array Operand} {tyq : Array TypeId} {xa : List Arg} {b : Bool} {cr : List C} (hd : Nat.blt d N = true) (hbod : BoI P g) (hcal : calleeOf (onlyT ⟨some d, .call ⟨.value f, args, tyq⟩, ty, pos, af, none⟩ (lk tm)) f = some (g, [])) (hK : FnSound P g xa [] { vals := [(b, cr)] })
    (ha : argsV (onlyT ⟨some d, .call ⟨.value f, args, tyq⟩, ty, pos, af, none⟩ (lk tm)) (onlyB (opKeys (lk tm) (lko bo) ⟨some d, .call ⟨.value f, args, tyq⟩, ty, pos, af, none⟩) (lko bo)) (lend g) args.toList = some (xa, []))
    (hr : resOk { vals := [(b, cr)] } (lend g) = true) (hcl : ARes.closed { vals := [(b, cr)] } = true)
    (h : W P lend N ops dr cs R (i + 1) os ((d, .one b cr) :: tm) bo nx (ns ++ [⟨opKeys (lk tm) (lko bo) ⟨some d, .call ⟨.value f, args, tyq⟩, ty, pos, af, none⟩, []⟩])) : W P lend N ops dr cs R i (⟨some d, .call ⟨.value f, args, tyq⟩, ty, pos, af, none⟩ :: os) tm bo nx ns := by
 obtain ⟨hbod⟩ := hbod
 refine W.eff (call := oneCall g xa { vals := [(b, cr)] }) (oneCall_ok hK) rfl (fun k hk => by cases hk; exact Nat.le_of_ble_eq_true hd) ?_ (updT_cons _ _ _) (updB_0 bo) h
 simp only [effOf]
 unfold effCall effCall0
 simp only [hcal, List.isEmpty_nil, if_true, hbod]
 unfold argsV at ha
 obtain ⟨⟨xs, ks'⟩, h1, h2⟩ := Option.map_eq_some_iff.1 ha
 cases h2
 simp only [List.isEmpty_nil, Bool.not_true, Bool.or_false, h1, argVals, List.map_nil, List.append_nil]
 unfold effVal
 have h5 : oneCall g (List.map (fun y => Arg.val y.1 y.2) xs) { vals := [(b, cr)] } g (List.map (fun x => Arg.val x.1 x.2) xs) [] = some { vals := [(b, cr)] } := by
  unfold oneCall; simp
 have hk : renK (keyAt i nx) [] 0 = fun q => q := by funext q; rfl
 simp only [resOk, Bool.and_eq_true, Bool.or_eq_true, Bool.not_eq_true', List.isEmpty_iff] at hr
 have hsc : lend g = false ∨ ARes.scalars { vals := [(b, cr)] } = true := hr.2.imp id fun h => by simp only [ARes.scalars, List.isEmpty_nil, Bool.true_and]; exact h
 simp only [h5]
 rw [if_pos ⟨rfl, by simp, hsc, hcl, rfl, rfl⟩]
 simp only [hk, resAV_vals, takeBx, List.nil_append, shut, List.filter_nil, List.filterMap_nil]
 rfl
end
end Go.Proofs.YtjpdemikmdfonaaGreatDoor

namespace Go.Proofs.YtjpdemikmdfonaaGreatDoor
open Go Go.RowKit
set_option linter.unusedSimpArgs false
set_option linter.unusedVariables false
inductive AtJ (N : Nat) (J : St) (ax : AX) (s : St) : Prop
 | mk (h0 : ax = .normal) (h : SubI N s J)
theorem endO1n {P : Program} {tm : List (Nat × AV)} {bo : BO} {nx : Nat} {fn : Func} {args : List Arg} {vs : List (Bool × List C)} {r : ARes} {l : List ResultVar} (hfr : fn.results = l.toArray) (hr : ResW P tm bo l vs) (h : outO (clean bo) vs args = some r) : FinO P fn args r .normal ⟨tm, clean bo, nx⟩ := by
 obtain ⟨h⟩ := endO1 (nx := nx) hfr hr h
 exact ⟨h⟩
end Go.Proofs.YtjpdemikmdfonaaGreatDoor

namespace Go.Proofs.YtjpdemikmdfonaaGreatDoor
open Go Go.RowKit
set_option linter.unusedSimpArgs false
set_option linter.unusedVariables false
def byteN (s : ByteArray) (i : Nat) : Int := ((s.data.getD i 0).toNat : Int)
theorem wrap_u64 {n : Int} (h : 0 ≤ n ∧ n < 18446744073709551616) : IntKind.u64.wrap n = n := by
 show n % 18446744073709551616 = n
 omega
theorem cellTo_str {lb : Key → Option Box} {f : Key → Key} {a b : ByteArray} (h : b = a) : cellTo lb f (.d (.v (.string a))) (.d (.v (.string b))) := by subst h; exact .inl rfl
section
variable {P : Program} {lend : FuncId → Bool} {N : Nat} {ops : Array Oper} {dr : Bool} {cs : List Code} {R : AX → St → Prop} {i : Nat} {os : List Oper} {tm : List (Nat × AV)} {bo : BO} {nx : Nat} {ns : List Note} {d : Nat} {pos : String} {ty : TypeId} {af : Array Edge}
theorem K_in (t : TypeId) {x y : Operand} (h : W P lend N ops dr cs R i (⟨some d, .index t x y, ty, pos, af, none⟩ :: os) tm bo nx ns) : W P lend N ops dr cs R i (⟨some d, .index t x y, ty, pos, af, none⟩ :: os) tm bo nx ns := h
theorem sv_index {t : TypeId} {s : ByteArray} {k : IntKind} {n : Int} (hu : P.underlying t = some .string) (hn : 0 ≤ n ∧ n < s.size) : semVal P (Instr.index t (.string s) (.int k n)) = some (.int .u8 (byteN s n.toNat)) := by
 have hl : n.toNat < s.size := by omega
 have hl' : n.toNat < s.data.size := hl
 have e : s[n.toNat]? = some (s.data.getD n.toNat 0) := by
  rw [getElem?_pos s n.toNat hl]
  congr 1
  rw [Array.getD_eq_getD_getElem?, Array.getElem?_eq_getElem hl']
  rfl
 unfold Instr.index
 rw [show asIntOf (.int k n) = (pure (k, n) : Sem (IntKind × Int)) from rfl, semVal_bind, semVal_pure, Option.bind_some, semVal_bind, semVal_underlying hu]
 simp only [Option.bind_some, if_pos hn.1, e]
 rfl
theorem W.sidx {t : TypeId} {x ix : Operand} {s : ByteArray} {k : IntKind} {n : Int} (hd : Nat.blt d N = true) (hu : P.underlying t = some .string) (hx : ev (lk tm) x = some (.one false [.d (.v (.string s))])) (hi : ev (lk tm) ix = some (.one false [.d (.v (.int k n))])) (hn : 0 ≤ n ∧ n < s.size) (h : W P lend N ops dr cs R (i + 1) os ((d, .one false [.d (.v (.int .u8 (byteN s n.toNat)))]) :: tm) bo nx (ns ++ [⟨opKeys (lk tm) (lko bo) ⟨some d, .index t x ix, ty, pos, af, none⟩, []⟩])) : W P lend N ops dr cs R i (⟨some d, .index t x ix, ty, pos, af, none⟩ :: os) tm bo nx ns := by
 refine W.plain hd (fun lt hlt => ?_) (fun _ _ _ _ _ _ _ h => h) h
 have e1 := (hlt x (by simp [Op.operands])).trans hx
 have e2 := (hlt ix (by simp [Op.operands])).trans hi
 unfold effPlain
 simp only [plainOp, Op.operands, List.all_cons, List.all_nil, e1, e2, Option.bind_some, conV, Option.isSome_some, Bool.and_true, Bool.true_and, if_true]
 unfold execOp
 simp only [e1, e2, Option.bind_some, conV, Option.getD_some, semVal_bind, sv_index hu hn, semVal_pure, constAV_int, Option.map_some, semVal_map]
theorem W.sidxN {t : TypeId} {x ix : Operand} {s : ByteArray} {k : IntKind} {n : Nat} (hd : Nat.blt d N = true) (hu : P.underlying t = some .string) (hx : ev (lk tm) x = some (.one false [.d (.v (.string s))])) (hi : ev (lk tm) ix = some (.one false [.d (.v (.int k (n : Int)))])) (hn : n < s.size) (h : W P lend N ops dr cs R (i + 1) os ((d, .one false [.d (.v (.int .u8 (byteN s n)))]) :: tm) bo nx (ns ++ [⟨opKeys (lk tm) (lko bo) ⟨some d, .index t x ix, ty, pos, af, none⟩, []⟩])) : W P lend N ops dr cs R i (⟨some d, .index t x ix, ty, pos, af, none⟩ :: os) tm bo nx ns :=
 W.sidx hd hu hx hi ⟨by omega, by omega⟩ h
theorem W.slen {t : TypeId} {x : Operand} {s : ByteArray} (hd : Nat.blt d N = true) (hu : P.underlying t = some .string) (hx : ev (lk tm) x = some (.one false [.d (.v (.string s))])) (h : W P lend N ops dr cs R (i + 1) os ((d, .one false [.d (.v (.int .i64 (s.size : Int)))]) :: tm) bo nx (ns ++ [⟨opKeys (lk tm) (lko bo) ⟨some d, .call ⟨.builtin .len, #[x], #[t]⟩, ty, pos, af, none⟩, []⟩])) : W P lend N ops dr cs R i (⟨some d, .call ⟨.builtin .len, #[x], #[t]⟩, ty, pos, af, none⟩ :: os) tm bo nx ns := by
 refine W.val hd ?_ h
 have e1 := (ev_only (o := ⟨some d, .call ⟨.builtin .len, #[x], #[t]⟩, ty, pos, af, none⟩) (lt := lk tm) (x := x) (by simp [Op.operands, Call.operands])).trans hx
 simp only [effOf, hu]
 unfold effPlain
 simp only [plainOp, Op.operands, Call.operands, Array.toList_append, Array.append_empty, Array.empty_append, List.nil_append, List.all_cons, List.all_nil, e1, Option.bind_some, conV, Option.isSome_some, Bool.and_true, Bool.true_and, if_true]
 unfold execOp
 have hb : semVal P (Builtin.len_ #[t] ty #[.string s]) = some (.int .i64 (s.size : Int)) := by
  unfold Builtin.len_
  simp [semVal_bind, semVal_underlying hu, semVal_pure, goInt]
 simp [e1, conV, resolve, invoke, builtin, hb, semVal_bind, semVal_pure, semVal_map, constAV, cellC, scal]
theorem sv_seq (a b : ByteArray) : (a.toList == b.toList) = decide (a = b) := by
 have e : a.toList = b.toList ↔ a = b := ⟨fun h => by
  have h1 : a.data.toList = b.data.toList := by rw [← ByteArray.toList_eq, ← ByteArray.toList_eq]; exact h
  exact ByteArray.ext (Array.toList_inj.1 h1), fun h => by rw [h]⟩
 by_cases h : a = b
 ·subst h; simp
 ·rw [decide_eq_false h]
  simpa using fun h' => h (e.1 h')
theorem W.seq {t ty' : TypeId} {x y : Operand} {a b : ByteArray} (hd : Nat.blt d N = true) (hu : P.underlying t = some .string) (hx : ev (lk tm) x = some (.one false [.d (.v (.string a))])) (hy : ev (lk tm) y = some (.one false [.d (.v (.string b))])) (h : W P lend N ops dr cs R (i + 1) os ((d, .one false [.d (.v (.bool (decide (a = b))))]) :: tm) bo nx (ns ++ [⟨opKeys (lk tm) (lko bo) ⟨some d, .binOp .eql t x y ty', ty, pos, af, none⟩, []⟩])) : W P lend N ops dr cs R i (⟨some d, .binOp .eql t x y ty', ty, pos, af, none⟩ :: os) tm bo nx ns :=
 W.plain hd (fun lt hlt => plain2 rfl ((hlt x (by simp [Op.operands])).trans hx) ((hlt y (by simp [Op.operands])).trans hy) (by unfold eqGuard; rfl) (by
  simp only [binOp, Op.stringOp, sv_seq]; rfl) rfl) (fun _ _ _ _ _ _ _ h => orE_some h) h
theorem W.sne {t ty' : TypeId} {x y : Operand} {a b : ByteArray} (hd : Nat.blt d N = true) (hu : P.underlying t = some .string) (hx : ev (lk tm) x = some (.one false [.d (.v (.string a))])) (hy : ev (lk tm) y = some (.one false [.d (.v (.string b))])) (h : W P lend N ops dr cs R (i + 1) os ((d, .one false [.d (.v (.bool (decide (¬ a = b))))]) :: tm) bo nx (ns ++ [⟨opKeys (lk tm) (lko bo) ⟨some d, .binOp .neq t x y ty', ty, pos, af, none⟩, []⟩])) : W P lend N ops dr cs R i (⟨some d, .binOp .neq t x y ty', ty, pos, af, none⟩ :: os) tm bo nx ns :=
 W.plain hd (fun lt hlt => plain2 rfl ((hlt x (by simp [Op.operands])).trans hx) ((hlt y (by simp [Op.operands])).trans hy) (by unfold eqGuard; rfl) (by
  simp only [binOp, Op.stringOp, sv_seq, decide_not]; rfl) rfl) (fun _ _ _ _ _ _ _ h => orE_some h) h
end
end Go.Proofs.YtjpdemikmdfonaaGreatDoor

namespace Go.Proofs.YtjpdemikmdfonaaGreatDoor
open Go Go.RowKit
set_option linter.unusedSimpArgs false
set_option linter.unusedVariables false
theorem vp_all {p : Prob} (h : vpErr p = 0) : p.vs.length ≤ 6 ∧ p.tabs.length ≤ 12 ∧ p.now.length = p.vs.length ∧ p.tgt.length = p.vs.length ∧ ∀ i, i < p.vs.length → (1 ≤ p.vs.getD i 0 ∧ p.vs.getD i 0 ≤ 6) ∧ (0 ≤ p.now.getD i 0 ∧ p.now.getD i 0 < p.vs.getD i 0) ∧ (0 ≤ p.tgt.getD i 0 ∧ p.tgt.getD i 0 < p.vs.getD i 0) := by
 obtain ⟨h1, h2, h3, h4⟩ := vp_parts.1 h
 refine ⟨h1.1, h1.2, h2.1, h2.2, fun i hi => ?_⟩
 have := (rngOK_get h2.1 h2.2).1 h3 i hi
 simp only [withinB, decide_eq_true_eq] at this
 have e : p.vs.getD i 0 = p.vs[i] := by rw [List.getD_eq_getElem?_getD, List.getElem?_eq_getElem hi]; rfl
 rw [e]
 exact ⟨this.1, this.2.1, this.2.2⟩
theorem vs_le {p : Prob} (h : vpErr p = 0) (k : Nat) : p.vs.getD k 0 ≤ 6 := by
 by_cases hk : k < p.vs.length
 ·exact ((vp_all h).2.2.2.2 k hk).1.2
 ·rw [List.getD_eq_getElem?_getD, List.getElem?_eq_none (by omega)]; decide
structure TabIn (vs : List Int) (t : Tab) : Prop where
 frm : 0 ≤ t.frm ∧ t.frm < vs.length
 tto : 0 ≤ t.tto ∧ t.tto < vs.length
 okA : ∀ u : Nat, (u : Int) < vs.getD t.frm.toNat 0 → u < t.ok.length ∧ ((t.ok.getD u []).length : Int) = vs.getD t.tto.toNat 0
 rwA : t.kind = 4 → ∀ u : Nat, (u : Int) < vs.getD t.frm.toNat 0 → u < t.rw.length ∧ ((t.rw.getD u []).length : Int) = vs.getD t.frm.toNat 0
 knd : 1 ≤ t.kind ∧ t.kind ≤ 4
 diag : diagFrom t.rw 0 = true
theorem MixIn.at_ {p : Prob} {m : MixD} (h : MixIn p m) {s : Int} (hs : 0 ≤ s ∧ s < p.vs.length) : (0 ≤ s ∧ s < m.base.length ∧ s < m.next.length) ∧ (0 ≤ m.base.getD s.toNat 0 ∧ m.base.getD s.toNat 0 ≤ 6) ∧ m.next.getD s.toNat 0 ≤ 6 ∧ -1 ≤ m.next.getD s.toNat 0 ∧ m.base.getD s.toNat 0 < p.vs.getD s.toNat 0 ∧ m.next.getD s.toNat 0 < p.vs.getD s.toNat 0 := by
 have h1 := h.rng s.toNat (by omega)
 have h2 := vs_le h.vp s.toNat
 have := h.lb; have := h.ln
 exact ⟨by omega, by omega, by omega, by omega, by omega, by omega⟩
end Go.Proofs.YtjpdemikmdfonaaGreatDoor

namespace Go.Proofs.YtjpdemikmdfonaaGreatDoor
open Go Go.RowKit
set_option linter.unusedSimpArgs false
set_option linter.unusedVariables false
end Go.Proofs.YtjpdemikmdfonaaGreatDoor

namespace Go.Proofs.YtjpdemikmdfonaaGreatDoor
open Go Go.RowKit
set_option linter.unusedSimpArgs false
set_option linter.unusedVariables false
end Go.Proofs.YtjpdemikmdfonaaGreatDoor

namespace Go.Proofs.YtjpdemikmdfonaaGreatDoor
open Go Go.RowKit
set_option linter.unusedSimpArgs false
set_option linter.unusedVariables false
end Go.Proofs.YtjpdemikmdfonaaGreatDoor

namespace Go.Proofs.YtjpdemikmdfonaaGreatDoor
open Go Go.RowKit
def letterP (c : Int) : Bool := decide (c = 95 ∨ 97 ≤ c ∧ c ≤ 122 ∨ 65 ≤ c ∧ c ≤ 90)
def digitP (c : Int) : Bool := decide (48 ≤ c ∧ c ≤ 57)
def nameB (c : Int) : Bool := letterP c || digitP c
def isNameP (s : ByteArray) : Bool := decide (s.size ≠ 0 ∧ s.size ≤ 24) && letterP (byteN s 0) && (List.range s.size).all fun i => nameB (byteN s i)
theorem name_all {s : ByteArray} {k : Nat} : ((List.range k).all fun i => nameB (byteN s i)) = true ↔ ∀ i, i < k → nameB (byteN s i) = true := by
 simp [List.all_eq_true]
def idsP (before : Int) (seen : List ByteArray) : List (Int × ByteArray) → Bool
 | [] => true
 | (i, n) :: r => decide (before < i ∧ 1 ≤ i ∧ i ≤ 1000) && isNameP n && !seen.any (fun m => decide (m = n)) && idsP i (n :: seen) r
def symsP (l : List SymD) : Bool := decide (l ≠ []) && idsP 0 [] (l.map fun x => (x.id, x.name)) && decide (l.length ≤ 16)
def blankP (v : ValD) : Bool := decide (v.kind = 0) && !v.b && decide (v.n = 0) && decide (v.s = ByteArray.empty) && decide (v.id = 0) && v.keys.isEmpty && v.items.isEmpty && v.rest.isEmpty
def memP (record : Bool) (m : MemD) : Bool := !(m.crit && m.has) && (record || !(m.crit || m.has)) && (m.has || blankP m.dflt)
def memsP (record : Bool) (l : List MemD) : Bool := l.all (memP record) && (record || decide (l ≠ [])) && idsP 0 [] (l.map fun x => (x.id, x.name)) && decide (l.length ≤ 16)
def onlyP (t : TypD) : Bool :=
 (decide (t.kind = 4 ∨ t.kind = 5 ∨ t.kind = 6) || decide (t.name = ByteArray.empty)) && (decide (t.kind = 2) || decide (t.low = 0 ∧ t.high = 0)) && (decide (t.kind = 3 ∨ t.kind = 7 ∨ t.kind = 8) || decide (t.max = 0)) &&
 (decide (t.kind = 4) || t.syms.isEmpty) && (decide (t.kind = 5 ∨ t.kind = 6) || t.mems.isEmpty) && (decide (t.kind = 8) || decide (t.key = 0)) && (decide (7 ≤ t.kind) || decide (t.elem = 0)) && (decide (t.kind = 4 ∨ t.kind = 6) || !t.opn)
def formP (t : TypD) : Bool :=
 decide (1 ≤ t.kind ∧ t.kind ≤ 9) && onlyP t && (!decide (t.kind = 4 ∨ t.kind = 5 ∨ t.kind = 6) || isNameP t.name) && (!decide (t.kind = 2) || decide (t.low ≤ t.high)) && (!decide (t.kind = 3) || decide (0 ≤ t.max ∧ t.max ≤ 200)) &&
 (!decide (t.kind = 4) || symsP t.syms) && (!decide (t.kind = 5 ∨ t.kind = 6) || memsP (decide (t.kind = 5)) t.mems) && (!decide (t.kind = 7 ∨ t.kind = 8) || decide (0 ≤ t.max ∧ t.max ≤ 50))
def usesP (t : TypD) : List Int := t.mems.map (·.typ) ++ (if t.kind = 8 then [t.key] else []) ++ (if 7 ≤ t.kind then [t.elem] else [])
def nilT0 : TypD := ⟨0, ByteArray.empty, 0, 0, 0, [], [], 0, 0, false⟩
def firstE (f : Nat → Int) : Nat → Int
 | 0 => 0
 | n + 1 => if firstE f n ≠ 0 then firstE f n else f n
theorem firstE_zero {f : Nat → Int} : ∀ {n : Nat}, (∀ j, j < n → f j = 0) → firstE f n = 0
 | 0, _ => rfl
 | n + 1, h => by
  unfold firstE
  rw [firstE_zero fun j hj => h j (by omega), if_neg (fun a => a rfl)]
  exact h n (by omega)
theorem firstE_at {f : Nat → Int} {i : Nat} {e : Int} : ∀ {n : Nat}, i < n → (∀ j, j < i → f j = 0) → f i = e → e ≠ 0 → firstE f n = e
 | 0, h, _, _, _ => absurd h (Nat.not_lt_zero _)
 | n + 1, h, h0, h1, h2 => by
  unfold firstE
  rcases Nat.lt_or_ge i n with g | g
  ·rw [firstE_at g h0 h1 h2, if_pos h2]
  ·obtain rfl : i = n := by omega
   rw [firstE_zero h0, if_neg (fun a => a rfl), h1]
theorem firstE_all {f : Nat → Int} : ∀ {n : Nat}, firstE f n = 0 → ∀ j, j < n → f j = 0
 | 0, _, j, hj => absurd hj (Nat.not_lt_zero _)
 | n + 1, h, j, hj => by
  unfold firstE at h
  split at h
  ·rename_i g; exact absurd h g
  ·rename_i g
   rcases Nat.lt_or_ge j n with k | k
   ·exact firstE_all (by simpa using g) j k
   ·obtain rfl : j = n := by omega
    exact h
def namedK (k : Int) : Bool := decide (k = 4 ∨ k = 5 ∨ k = 6)
def dupT (l : List TypD) (i : Nat) : Bool := (List.range i).any fun k => decide ((l.getD k nilT0).name = (l.getD i nilT0).name)
def outT (n : Nat) (u : Int) : Bool := decide (u < 0 ∨ (n : Int) ≤ u)
def typErr (l : List TypD) (i : Nat) : Int :=
 if formP (l.getD i nilT0) = false ∨ namedK (l.getD i nilT0).kind = true ∧ dupT l i = true then 1
 else if (usesP (l.getD i nilT0)).any (outT l.length) = true then 4
 else if (l.getD i nilT0).kind = 8 ∧ ¬ (1 ≤ (l.getD (l.getD i nilT0).key.toNat nilT0).kind ∧ (l.getD (l.getD i nilT0).key.toNat nilT0).kind ≤ 4) then 1
 else 0
def schemaErr (l : List TypD) : Int := if 32 < l.length then 3 else firstE (typErr l) l.length
end Go.Proofs.YtjpdemikmdfonaaGreatDoor

namespace Go.Proofs.YtjpdemikmdfonaaGreatDoor
open Go Go.RowKit
def zeroP (v : ValD) : Bool :=
 (decide (v.kind = 1) || !v.b) && (decide (v.kind = 2) || decide (v.n = 0)) && (decide (v.kind = 3) || decide (v.s = ByteArray.empty)) && (decide (v.kind = 4 ∨ v.kind = 6) || decide (v.id = 0)) && (decide (v.kind = 8) || v.keys.isEmpty) && (decide (5 ≤ v.kind) || v.items.isEmpty) && (decide (v.kind = 5 ∨ v.kind = 6) || v.rest.isEmpty)
def zigP (n : Int) : Int := if 0 ≤ n then 2 * n else 2 * (-(n + 1)) + 1
def lessS (a b : ByteArray) : Bool := Op.bytesLess a.toList b.toList
def cmpV (a b : ValD) : Int :=
 if a.kind ≠ b.kind then 0
 else if a.kind = 1 then (if a.b = b.b then 0 else if b.b then -1 else 1)
 else if a.kind = 2 then (if zigP a.n < zigP b.n then -1 else if zigP a.n = zigP b.n then 0 else 1)
 else if a.kind = 3 then (if a.s.size < b.s.size then -1 else if b.s.size < a.s.size then 1 else if a.s = b.s then 0 else if lessS a.s b.s then -1 else 1)
 else if a.kind = 4 then (if a.id < b.id then -1 else if a.id = b.id then 0 else 1)
 else 0
def ascV : List ValD → Bool
 | a :: b :: r => decide (cmpV a b < 0) && ascV (b :: r)
 | _ => true
def symAt (l : List SymD) (id : Int) : Option Nat := l.findIdx? fun x => decide (x.id = id)
def memAt (l : List MemD) (id : Int) : Option Nat := l.findIdx? fun x => decide (x.id = id)
def nilM0 : MemD := ⟨0, ByteArray.empty, 0, false, false, nilV⟩
mutual
def plainP (l : List TypD) (t : Int) : ValD → Bool
 | .mk k b n s i ks is rs =>
  if t < 0 ∨ (l.length : Int) ≤ t then false
  else if k ≠ (l.getD t.toNat nilT0).kind ∨ zeroP (.mk k b n s i ks is rs) = false ∨ rs ≠ [] then false
  else if k = 2 then decide ((l.getD t.toNat nilT0).low ≤ n ∧ n ≤ (l.getD t.toNat nilT0).high)
  else if k = 3 then decide ((s.size : Int) ≤ (l.getD t.toNat nilT0).max)
  else if k = 4 then (symAt (l.getD t.toNat nilT0).syms i).isSome
  else if k = 5 then decide (is.length = (l.getD t.toNat nilT0).mems.length) && plainMs l (l.getD t.toNat nilT0).mems is
  else if k = 6 then match memAt (l.getD t.toNat nilT0).mems i with
   | some j => plainOne l ((l.getD t.toNat nilT0).mems.getD j nilM0).typ is
   | none => false
  else if k = 7 then decide ((is.length : Int) ≤ (l.getD t.toNat nilT0).max) && plainAll l (l.getD t.toNat nilT0).elem is
  else if k = 8 then decide ((ks.length : Int) ≤ (l.getD t.toNat nilT0).max ∧ is.length = ks.length) && plainAll l (l.getD t.toNat nilT0).key ks && ascV ks && plainAll l (l.getD t.toNat nilT0).elem is
  else if k = 9 then decide (is.length ≤ 1) && plainAll l (l.getD t.toNat nilT0).elem is
  else true
def plainAll (l : List TypD) (t : Int) : List ValD → Bool
 | [] => true
 | v :: r => plainP l t v && plainAll l t r
def plainMs (l : List TypD) : List MemD → List ValD → Bool
 | m :: ms, v :: r => plainP l m.typ v && plainMs l ms r
 | _, _ => true
def plainOne (l : List TypD) (t : Int) : List ValD → Bool
 | [v] => plainP l t v
 | _ => false
end
theorem plainAll_eq (l : List TypD) (t : Int) : ∀ vs : List ValD, plainAll l t vs = vs.all (plainP l t)
 | [] => by unfold plainAll; rfl
 | v :: r => by unfold plainAll; rw [plainAll_eq l t r]; rfl
def defErr (l : List TypD) : Int := if l.all (fun t => t.mems.all fun m => !m.has || plainP l m.typ m.dflt) then 0 else 1
end Go.Proofs.YtjpdemikmdfonaaGreatDoor

