/- Rules of runs and contracts of functions, for the claims of one seat. -/
import Derived.Test.YtgehafnodibhpaaGreatDoorPA12
import Derived.Test.YtgehafnodibhpaaGreatDoorPA13
namespace Go.Proofs.YtgehafnodibhpaaGreatDoor
open Go Go.RowKit
set_option linter.unusedVariables false
set_option maxRecDepth 100000
theorem m64 {i k : Nat} (h : i * 64 = k := by
 (first | (simp only [Nat.reduceAdd, Nat.reduceMul]; done) | (simp only [Nat.reduceAdd, Nat.reduceMul]; exact rfl))) : i * 64 = k := h
variable {N : Nat} {dr : Bool} {cs : List Code} {R : AX → St → Prop} {tm : List (Nat × AV)} {bo : BO} {nx : Nat} {ops : Array Oper} {i : Nat} {os : List Oper} {ns : List Note} {d : Nat} {pos : String} {ty : TypeId} {af : Array Edge} {lend : FuncId → Bool}
theorem K_la {t : TypeId} {x : Operand} (n : Nat) [LdA t n] (h : W Tryz.prog lend N ops dr cs R i (⟨some d, .load t x, ty, pos, af, none⟩ :: os) tm bo nx ns) : W Tryz.prog lend N ops dr cs R i (⟨some d, .load t x, ty, pos, af, none⟩ :: os) tm bo nx ns := h
theorem W.la {t : TypeId} {x : Operand} {c : C} {cs' cs2 : List C} {off n : Nat} [hl : LdA t n] (hd : Nat.blt d N = true) (hx : (ev (lk tm) x).bind slot1 = some c) (hb : behind (lko bo) c = some (cs', off)) (hc : subC off n cs' = some cs2) (h : W Tryz.prog lend N ops dr cs R (i + 1) os ((d, .one true cs2) :: tm) bo nx (ns ++ [⟨opKeys (lk tm) (lko bo) ⟨some d, .load t x, ty, pos, af, none⟩, []⟩])) : W Tryz.prog lend N ops dr cs R i (⟨some d, .load t x, ty, pos, af, none⟩ :: os) tm bo nx ns := W.loadA hd hl.h hx hb hc h
theorem F_at {P : Program} {fn : Func} {args : List Arg} {r : ARes} {ax : AX} {st : St} (h : FinW P fn args r ax st) : FinW P fn args r ax st := h
theorem FO_at {P : Program} {fn : Func} {args : List Arg} {r : ARes} {ax : AX} {st : St} (h : FinO P fn args r ax st) : FinO P fn args r ax st := h
theorem x2ld {P Q R : Prop} (q : Q) (r : R) (h : Q → R → P := by
 intro q r
 (first
  | (with_reducible refine K_ld 2 ?_); (first
   | refine W.load rfl ld2.h rfl (behind_el rfl (zMems ?_)) rfl ?_
   | refine W.load rfl ld2.h rfl (behind_el rfl (zRaws ?_)) rfl ?_
   | refine W.load rfl ld2.h rfl (behind_el rfl (zTyps ?_)) rfl ?_
   | refine W.load rfl ld2.h rfl (behind_el rfl (zVals ?_)) rfl ?_
   | refine W.load rfl ld2.h rfl (behind_el rfl (zInts ?_)) rfl ?_
   | refine W.load rfl ld2.h rfl (behind_el rfl (zSyms ?_)) rfl ?_)
  | (with_reducible refine K_ld 3 ?_); (first
   | refine W.load rfl ld3.h rfl (behind_el rfl (zInts ?_)) rfl ?_
   | refine W.load rfl ld3.h rfl (behind_el rfl (zStrs ?_)) rfl ?_
   | refine W.load rfl ld3.h rfl (behind_el rfl (zBools ?_)) rfl ?_
   | refine W.load rfl ld3.h rfl (behind_el rfl (zMat ?_)) rfl ?_
   | refine W.load rfl ld3.h rfl (behind_el rfl (zCalls ?_)) rfl ?_
   | refine W.load rfl ld3.h rfl (behind_el rfl (zTops ?_)) rfl ?_
   | refine W.load rfl ld3.h rfl (behind_el rfl (zSess ?_)) rfl ?_
   | refine W.load rfl ld3.h rfl (behind_el rfl (zTyps ?_)) rfl ?_
   | refine W.load rfl ld3.h rfl (behind_el rfl (zEdges ?_)) rfl ?_
   | refine W.load rfl ld3.h rfl (behind_el rfl (zMsgs ?_)) rfl ?_
   | refine W.load rfl ld3.h rfl (behind_el rfl (zMems ?_)) rfl ?_
   | refine W.load rfl ld3.h rfl (behind_el rfl (zRaws ?_)) rfl ?_
   | refine W.load rfl ld3.h rfl (behind_el rfl (zVals ?_)) rfl ?_
   | refine W.load rfl ld3.h rfl (behind_el rfl (zSyms ?_)) rfl ?_)
  | (with_reducible refine K_ld 4 ?_); (first
   | refine W.load rfl ld4.h rfl (behind_el rfl (zStrs ?_)) rfl ?_
   | refine W.load rfl ld4.h rfl (behind_el rfl (zBools ?_)) rfl ?_
   | refine W.load rfl ld4.h rfl (behind_el rfl (zMems ?_)) rfl ?_
   | refine W.load rfl ld4.h rfl (behind_el rfl (zRaws ?_)) rfl ?_
   | refine W.load rfl ld4.h rfl (behind_el rfl (zTyps ?_)) rfl ?_
   | refine W.load rfl ld4.h rfl (behind_el rfl (zVals ?_)) rfl ?_
   | refine W.load rfl ld4.h rfl (behind_el rfl (zEdges ?_)) rfl ?_
   | refine W.load rfl ld4.h rfl (behind_el rfl (zInts ?_)) rfl ?_
   | refine W.load rfl ld4.h rfl (behind_el rfl (zSyms ?_)) rfl ?_)
  | (with_reducible refine K_ld 9 ?_); (first
   | refine W.load rfl ld9.h rfl (behind_el rfl (zMat ?_)) rfl ?_
   | refine W.load rfl ld9.h rfl (behind_el rfl (zCalls ?_)) rfl ?_
   | refine W.load rfl ld9.h rfl (behind_el rfl (zSess ?_)) rfl ?_
   | refine W.load rfl ld9.h rfl (behind_el rfl (zTops ?_)) rfl ?_
   | refine W.load rfl ld9.h rfl (behind_el rfl (zStrs ?_)) rfl ?_
   | refine W.load rfl ld9.h rfl (behind_el rfl (zMems ?_)) rfl ?_
   | refine W.load rfl ld9.h rfl (behind_el rfl (zSyms ?_)) rfl ?_
   | refine W.load rfl ld9.h rfl (behind_el rfl (zTyps ?_)) rfl ?_
   | refine W.load rfl ld9.h rfl (behind_el rfl (zEdges ?_)) rfl ?_
   | refine W.load rfl ld9.h rfl (behind_el rfl (zMsgs ?_)) rfl ?_
   | refine W.load rfl ld9.h rfl (behind_el rfl (zRaws ?_)) rfl ?_
   | refine W.load rfl ld9.h rfl (behind_el rfl (zVals ?_)) rfl ?_
   | refine W.load rfl ld9.h rfl (behind_el rfl (zInts ?_)) rfl ?_)
  | (with_reducible refine K_ld 22 ?_); (first
   | refine W.load rfl ld22.h rfl (behind_el rfl (zMems ?_)) rfl ?_
   | refine W.load rfl ld22.h rfl (behind_el rfl (zSyms ?_)) rfl ?_
   | refine W.load rfl ld22.h rfl (behind_el rfl (zTyps ?_)) rfl ?_
   | refine W.load rfl ld22.h rfl (behind_el rfl (zInts ?_)) rfl ?_
   | refine W.load rfl ld22.h rfl (behind_el rfl (zEdges ?_)) rfl ?_
   | refine W.load rfl ld22.h rfl (behind_el rfl (zMsgs ?_)) rfl ?_
   | refine W.load rfl ld22.h rfl (behind_el rfl (zRaws ?_)) rfl ?_
   | refine W.load rfl ld22.h rfl (behind_el rfl (zVals ?_)) rfl ?_)
  | (with_reducible refine K_ld 24 ?_); (first
   | refine W.loadA (cs2 := [_]) rfl ld24.h rfl (behind_el rfl (zCalls ?_)) rfl ?_
   | refine W.loadA (cs2 := [_]) rfl ld24.h rfl (behind_el rfl (zSess ?_)) rfl ?_
   | refine W.loadA (cs2 := [_]) rfl ld24.h rfl (behind_el rfl (zTops ?_)) rfl ?_
   | refine W.loadA (cs2 := [_]) rfl ld24.h rfl (behind_el rfl (zBools ?_)) rfl ?_
   | refine W.loadA (cs2 := [_]) rfl ld24.h rfl (behind_el rfl (zInts ?_)) rfl ?_
   | refine W.loadA (cs2 := [_]) rfl ld24.h rfl (behind_el rfl (zMems ?_)) rfl ?_
   | refine W.loadA (cs2 := [_]) rfl ld24.h rfl (behind_el rfl (zRaws ?_)) rfl ?_
   | refine W.loadA (cs2 := [_]) rfl ld24.h rfl (behind_el rfl (zTyps ?_)) rfl ?_
   | refine W.loadA (cs2 := [_]) rfl ld24.h rfl (behind_el rfl (zVals ?_)) rfl ?_)
  | (with_reducible refine K_ld 25 ?_); (first
   | refine W.load rfl ld25.h rfl (behind_el rfl (zCalls ?_)) rfl ?_
   | refine W.load rfl ld25.h rfl (behind_el rfl (zSess ?_)) rfl ?_
   | refine W.load rfl ld25.h rfl (behind_el rfl (zTops ?_)) rfl ?_)
  | (with_reducible refine K_ld 26 ?_); (first
   | refine W.load rfl ld26.h rfl (behind_el rfl (zCalls ?_)) rfl ?_
   | refine W.load rfl ld26.h rfl (behind_el rfl (zSess ?_)) rfl ?_
   | refine W.load rfl ld26.h rfl (behind_el rfl (zTops ?_)) rfl ?_)
  | (with_reducible refine K_ld 27 ?_); (first
   | refine W.load rfl ld27.h rfl (behind_el rfl (zCalls ?_)) rfl ?_
   | refine W.load rfl ld27.h rfl (behind_el rfl (zSess ?_)) rfl ?_
   | refine W.load rfl ld27.h rfl (behind_el rfl (zTops ?_)) rfl ?_)
  | (with_reducible refine K_ld 29 ?_); (first
   | refine W.loadA (cs2 := [_, _, _, _, _]) rfl ld29.h rfl (behind_el rfl (zMat ?_)) rfl ?_
   | refine W.loadA (cs2 := [_, _, _, _, _]) rfl ld29.h rfl (behind_el rfl (zCalls ?_)) rfl ?_
   | refine W.loadA (cs2 := [_, _, _, _, _]) rfl ld29.h rfl (behind_el rfl (zSess ?_)) rfl ?_
   | refine W.loadA (cs2 := [_, _, _, _, _]) rfl ld29.h rfl (behind_el rfl (zTops ?_)) rfl ?_
   | refine W.loadA (cs2 := [_, _, _, _, _]) rfl ld29.h rfl (behind_el rfl (zInts ?_)) rfl ?_
   | refine W.loadA (cs2 := [_, _, _, _, _]) rfl ld29.h rfl (behind_el rfl (zStrs ?_)) rfl ?_
   | refine W.loadA (cs2 := [_, _, _, _, _]) rfl ld29.h rfl (behind_el rfl (zBools ?_)) rfl ?_)
  | (with_reducible refine K_ld 31 ?_); (first
   | refine W.loadA (cs2 := [_, _, _, _, _, _]) rfl ld31.h rfl (behind_el rfl (zMat ?_)) rfl ?_
   | refine W.loadA (cs2 := [_, _, _, _, _, _]) rfl ld31.h rfl (behind_el rfl (zStrs ?_)) rfl ?_
   | refine W.loadA (cs2 := [_, _, _, _, _, _]) rfl ld31.h rfl (behind_el rfl (zBools ?_)) rfl ?_)
  | (with_reducible refine K_ld 36 ?_); refine W.load rfl ld36.h rfl (behind_el rfl (zStrs ?_)) rfl ?_
  | (with_reducible refine K_ld 38 ?_); refine W.loadA (cs2 := [_, _, _, _]) rfl ld38.h rfl (behind_el rfl (zStrs ?_)) rfl ?_
  | (with_reducible refine K_ld 57 ?_); (first
   | refine W.load rfl ld57.h rfl (behind_el rfl (zEdges ?_)) rfl ?_
   | refine W.load rfl ld57.h rfl (behind_el rfl (zMsgs ?_)) rfl ?_
   | refine W.load rfl ld57.h rfl (behind_el rfl (zTyps ?_)) rfl ?_)
  | (with_reducible refine K_ld 58 ?_); (first
   | refine W.load rfl ld58.h rfl (behind_el rfl (zEdges ?_)) rfl ?_
   | refine W.load rfl ld58.h rfl (behind_el rfl (zMsgs ?_)) rfl ?_
   | refine W.load rfl ld58.h rfl (behind_el rfl (zTyps ?_)) rfl ?_
   | refine W.load rfl ld58.h rfl (behind_el rfl (zInts ?_)) rfl ?_)
  | (with_reducible refine K_ld 60 ?_); (first
   | refine W.loadA (cs2 := [_, _, _]) rfl ld60.h rfl (behind_el rfl (zEdges ?_)) rfl ?_
   | refine W.loadA (cs2 := [_, _, _]) rfl ld60.h rfl (behind_el rfl (zMsgs ?_)) rfl ?_
   | refine W.loadA (cs2 := [_, _, _]) rfl ld60.h rfl (behind_el rfl (zTyps ?_)) rfl ?_
   | refine W.loadA (cs2 := [_, _, _]) rfl ld60.h rfl (behind_el rfl (zInts ?_)) rfl ?_)
  | (with_reducible refine K_ld 62 ?_); (first
   | refine W.loadA (cs2 := [_, _, _, _, _]) rfl ld62.h rfl (behind_el rfl (zCalls ?_)) rfl ?_
   | refine W.loadA (cs2 := [_, _, _, _, _]) rfl ld62.h rfl (behind_el rfl (zSess ?_)) rfl ?_
   | refine W.loadA (cs2 := [_, _, _, _, _]) rfl ld62.h rfl (behind_el rfl (zTops ?_)) rfl ?_
   | refine W.loadA (cs2 := [_, _, _, _, _]) rfl ld62.h rfl (behind_el rfl (zInts ?_)) rfl ?_
   | refine W.loadA (cs2 := [_, _, _, _, _]) rfl ld62.h rfl (behind_el rfl (zStrs ?_)) rfl ?_
   | refine W.loadA (cs2 := [_, _, _, _, _]) rfl ld62.h rfl (behind_el rfl (zEdges ?_)) rfl ?_
   | refine W.loadA (cs2 := [_, _, _, _, _]) rfl ld62.h rfl (behind_el rfl (zMsgs ?_)) rfl ?_
   | refine W.loadA (cs2 := [_, _, _, _, _]) rfl ld62.h rfl (behind_el rfl (zTyps ?_)) rfl ?_)
  | (with_reducible refine K_ld 65 ?_); (first
   | refine W.loadA (cs2 := [_, _, _]) rfl ld65.h rfl (behind_el rfl (zCalls ?_)) rfl ?_
   | refine W.loadA (cs2 := [_, _, _]) rfl ld65.h rfl (behind_el rfl (zSess ?_)) rfl ?_
   | refine W.loadA (cs2 := [_, _, _]) rfl ld65.h rfl (behind_el rfl (zTops ?_)) rfl ?_)
  | (with_reducible refine K_ld 79 ?_); refine W.loadA (cs2 := [_, _, _, _, _, _, _]) rfl ld79.h rfl (behind_el rfl (zInts ?_)) rfl ?_
  | (with_reducible refine K_ld 81 ?_); refine W.loadA (cs2 := [_, _, _, _, _, _, _, _, _, _, _, _, _, _, _, _, _, _, _, _, _, _, _, _, _, _, _]) rfl ld81.h rfl (behind_el rfl (zInts ?_)) rfl ?_
  | (with_reducible refine K_ld 88 ?_); refine W.loadA (cs2 := [_, _, _]) rfl ld88.h rfl (behind_el rfl (zStrs ?_)) rfl ?_
  | (with_reducible refine K_ld 98 ?_); (first
   | refine W.loadA (cs2 := [_, _]) rfl ld98.h rfl (behind_el rfl (zTops ?_)) rfl ?_
   | refine W.loadA (cs2 := [_, _]) rfl ld98.h rfl (behind_el rfl (zCalls ?_)) rfl ?_
   | refine W.loadA (cs2 := [_, _]) rfl ld98.h rfl (behind_el rfl (zSess ?_)) rfl ?_)
  | (with_reducible refine K_ld 113 ?_); (first
   | refine W.loadA (cs2 := [_, _, _]) rfl ld113.h rfl (behind_el rfl (zMsgs ?_)) rfl ?_
   | refine W.loadA (cs2 := [_, _, _]) rfl ld113.h rfl (behind_el rfl (zEdges ?_)) rfl ?_
   | refine W.loadA (cs2 := [_, _, _]) rfl ld113.h rfl (behind_el rfl (zTyps ?_)) rfl ?_)
  | (with_reducible refine K_ld 116 ?_); refine W.load rfl ld116.h rfl (behind_el rfl (zStrs ?_)) rfl ?_
  | (with_reducible refine K_ld 127 ?_); (first
   | refine W.load rfl ld127.h rfl (behind_el rfl (zMems ?_)) rfl ?_
   | refine W.load rfl ld127.h rfl (behind_el rfl (zSyms ?_)) rfl ?_
   | refine W.load rfl ld127.h rfl (behind_el rfl (zTyps ?_)) rfl ?_
   | refine W.load rfl ld127.h rfl (behind_el rfl (zInts ?_)) rfl ?_)
  | (with_reducible refine K_ld 128 ?_); (first
   | refine W.load rfl ld128.h rfl (behind_el rfl (zMems ?_)) rfl ?_
   | refine W.load rfl ld128.h rfl (behind_el rfl (zSyms ?_)) rfl ?_
   | refine W.load rfl ld128.h rfl (behind_el rfl (zTyps ?_)) rfl ?_
   | refine W.load rfl ld128.h rfl (behind_el rfl (zRaws ?_)) rfl ?_
   | refine W.load rfl ld128.h rfl (behind_el rfl (zVals ?_)) rfl ?_
   | refine W.load rfl ld128.h rfl (behind_el rfl (zInts ?_)) rfl ?_
   | refine W.load rfl ld128.h rfl (behind_el rfl (zStrs ?_)) rfl ?_)
  | (with_reducible refine K_ld 130 ?_); (first
   | refine W.loadA (cs2 := [_, _, _, _, _, _, _, _, _, _]) rfl ld130.h rfl (behind_el rfl (zMems ?_)) rfl ?_
   | refine W.loadA (cs2 := [_, _, _, _, _, _, _, _, _, _]) rfl ld130.h rfl (behind_el rfl (zSyms ?_)) rfl ?_
   | refine W.loadA (cs2 := [_, _, _, _, _, _, _, _, _, _]) rfl ld130.h rfl (behind_el rfl (zTyps ?_)) rfl ?_
   | refine W.loadA (cs2 := [_, _, _, _, _, _, _, _, _, _]) rfl ld130.h rfl (behind_el rfl (zInts ?_)) rfl ?_
   | refine W.loadA (cs2 := [_, _, _, _, _, _, _, _, _, _]) rfl ld130.h rfl (behind_el rfl (zRaws ?_)) rfl ?_
   | refine W.loadA (cs2 := [_, _, _, _, _, _, _, _, _, _]) rfl ld130.h rfl (behind_el rfl (zVals ?_)) rfl ?_)
  | (with_reducible refine K_ld 133 ?_); (first
   | refine W.load rfl ld133.h rfl (behind_el rfl (zRaws ?_)) rfl ?_
   | refine W.load rfl ld133.h rfl (behind_el rfl (zVals ?_)) rfl ?_
   | refine W.load rfl ld133.h rfl (behind_el rfl (zMems ?_)) rfl ?_
   | refine W.load rfl ld133.h rfl (behind_el rfl (zTyps ?_)) rfl ?_)
  | (with_reducible refine K_ld 134 ?_); (first
   | refine W.load rfl ld134.h rfl (behind_el rfl (zRaws ?_)) rfl ?_
   | refine W.load rfl ld134.h rfl (behind_el rfl (zVals ?_)) rfl ?_
   | refine W.load rfl ld134.h rfl (behind_el rfl (zMems ?_)) rfl ?_
   | refine W.load rfl ld134.h rfl (behind_el rfl (zTyps ?_)) rfl ?_)
  | (with_reducible refine K_ld 136 ?_); (first
   | refine W.loadA (cs2 := [_, _, _, _, _, _, _, _]) rfl ld136.h rfl (behind_el rfl (zMems ?_)) rfl ?_
   | refine W.loadA (cs2 := [_, _, _, _, _, _, _, _]) rfl ld136.h rfl (behind_el rfl (zSyms ?_)) rfl ?_
   | refine W.loadA (cs2 := [_, _, _, _, _, _, _, _]) rfl ld136.h rfl (behind_el rfl (zTyps ?_)) rfl ?_
   | refine W.loadA (cs2 := [_, _, _, _, _, _, _, _]) rfl ld136.h rfl (behind_el rfl (zRaws ?_)) rfl ?_
   | refine W.loadA (cs2 := [_, _, _, _, _, _, _, _]) rfl ld136.h rfl (behind_el rfl (zVals ?_)) rfl ?_
   | refine W.loadA (cs2 := [_, _, _, _, _, _, _, _]) rfl ld136.h rfl (behind_el rfl (zInts ?_)) rfl ?_
   | refine W.loadA (cs2 := [_, _, _, _, _, _, _, _]) rfl ld136.h rfl (behind_el rfl (zStrs ?_)) rfl ?_)
  | (with_reducible refine K_ld 138 ?_); (first
   | refine W.loadA (cs2 := [_, _, _, _, _, _, _, _, _, _, _, _, _]) rfl ld138.h rfl (behind_el rfl (zMems ?_)) rfl ?_
   | refine W.loadA (cs2 := [_, _, _, _, _, _, _, _, _, _, _, _, _]) rfl ld138.h rfl (behind_el rfl (zRaws ?_)) rfl ?_
   | refine W.loadA (cs2 := [_, _, _, _, _, _, _, _, _, _, _, _, _]) rfl ld138.h rfl (behind_el rfl (zTyps ?_)) rfl ?_
   | refine W.loadA (cs2 := [_, _, _, _, _, _, _, _, _, _, _, _, _]) rfl ld138.h rfl (behind_el rfl (zVals ?_)) rfl ?_
   | refine W.loadA (cs2 := [_, _, _, _, _, _, _, _, _, _, _, _, _]) rfl ld138.h rfl (behind_el rfl (zSyms ?_)) rfl ?_
   | refine W.loadA (cs2 := [_, _, _, _, _, _, _, _, _, _, _, _, _]) rfl ld138.h rfl (behind_el rfl (zInts ?_)) rfl ?_
   | refine W.loadA (cs2 := [_, _, _, _, _, _, _, _, _, _, _, _, _]) rfl ld138.h rfl (behind_el rfl (zStrs ?_)) rfl ?_)
  | (with_reducible refine K_ld 195 ?_); (first
   | refine W.loadA (cs2 := [_, _]) rfl ld195.h rfl (behind_el rfl (zMems ?_)) rfl ?_
   | refine W.loadA (cs2 := [_, _]) rfl ld195.h rfl (behind_el rfl (zRaws ?_)) rfl ?_
   | refine W.loadA (cs2 := [_, _]) rfl ld195.h rfl (behind_el rfl (zTyps ?_)) rfl ?_
   | refine W.loadA (cs2 := [_, _]) rfl ld195.h rfl (behind_el rfl (zVals ?_)) rfl ?_)
  | (with_reducible refine K_ld 208 ?_); (first
   | refine W.loadA (cs2 := [_, _, _, _]) rfl ld208.h rfl (behind_el rfl (zEdges ?_)) rfl ?_
   | refine W.loadA (cs2 := [_, _, _, _]) rfl ld208.h rfl (behind_el rfl (zInts ?_)) rfl ?_
   | refine W.loadA (cs2 := [_, _, _, _]) rfl ld208.h rfl (behind_el rfl (zMsgs ?_)) rfl ?_
   | refine W.loadA (cs2 := [_, _, _, _]) rfl ld208.h rfl (behind_el rfl (zTyps ?_)) rfl ?_)
  | (with_reducible refine K_ld 332 ?_); (first
   | refine W.loadA (cs2 := [_, _]) rfl ld332.h rfl (behind_el rfl (zMems ?_)) rfl ?_
   | refine W.loadA (cs2 := [_, _]) rfl ld332.h rfl (behind_el rfl (zSyms ?_)) rfl ?_
   | refine W.loadA (cs2 := [_, _]) rfl ld332.h rfl (behind_el rfl (zInts ?_)) rfl ?_
   | refine W.loadA (cs2 := [_, _]) rfl ld332.h rfl (behind_el rfl (zStrs ?_)) rfl ?_))
 exact q
 exact r) : P := h q r
theorem x2bn {P Q R : Prop} (q : Q) (r : R) (h : Q → R → P := by
 intro q r
 (first
  | (with_reducible refine K_bn .shr _ ?_); refine W.shr rfl rfl rfl ?_ ?_
  | (with_reducible refine K_bn .add _ ?_); refine W.sadd rfl rfl rfl ?_ ?_
  | (with_reducible refine K_bn .shl _ ?_); refine W.shl rfl rfl rfl ?_ ?_)
 exact q
 exact r) : P := h q r
theorem x2st {P Q R : Prop} (q : Q) (r : R) (h : Q → R → P := by
 intro q r
 (first
  | (with_reducible refine K_st 2 ?_); (first
   | refine W.storeE sz2.h rfl rfl rfl (zMems ?_) rfl (And.intro rfl (Nat.le_of_ble_eq_true rfl)) wMems ?_
   | refine W.storeE sz2.h rfl rfl rfl (zSyms ?_) rfl (And.intro rfl (Nat.le_of_ble_eq_true rfl)) wSyms ?_
   | refine W.storeE sz2.h rfl rfl rfl (zRaws ?_) rfl (And.intro rfl (Nat.le_of_ble_eq_true rfl)) wRaws ?_
   | refine W.storeE sz2.h rfl rfl rfl (zVals ?_) rfl (And.intro rfl (Nat.le_of_ble_eq_true rfl)) wVals ?_)
  | (with_reducible refine K_st 3 ?_); (first
   | refine W.storeE sz3.h rfl rfl rfl (zInts ?_) rfl (And.intro rfl (Nat.le_of_ble_eq_true rfl)) wInts ?_
   | refine W.storeE sz3.h rfl rfl rfl (zTyps ?_) rfl (And.intro rfl (Nat.le_of_ble_eq_true rfl)) wTyps ?_
   | refine W.storeE sz3.h rfl rfl rfl (zMems ?_) rfl (And.intro rfl (Nat.le_of_ble_eq_true rfl)) wMems ?_
   | refine W.storeE sz3.h rfl rfl rfl (zSyms ?_) rfl (And.intro rfl (Nat.le_of_ble_eq_true rfl)) wSyms ?_
   | refine W.storeE sz3.h rfl rfl rfl (zEdges ?_) rfl (And.intro rfl (Nat.le_of_ble_eq_true rfl)) wEdges ?_
   | refine W.storeE sz3.h rfl rfl rfl (zRaws ?_) rfl (And.intro rfl (Nat.le_of_ble_eq_true rfl)) wRaws ?_
   | refine W.storeE sz3.h rfl rfl rfl (zVals ?_) rfl (And.intro rfl (Nat.le_of_ble_eq_true rfl)) wVals ?_)
  | (with_reducible refine K_st 4 ?_); (first
   | refine W.storeE sz4.h rfl rfl rfl (zMems ?_) rfl (And.intro rfl (Nat.le_of_ble_eq_true rfl)) wMems ?_
   | refine W.storeE sz4.h rfl rfl rfl (zSyms ?_) rfl (And.intro rfl (Nat.le_of_ble_eq_true rfl)) wSyms ?_
   | refine W.storeE sz4.h rfl rfl rfl (zRaws ?_) rfl (And.intro rfl (Nat.le_of_ble_eq_true rfl)) wRaws ?_
   | refine W.storeE sz4.h rfl rfl rfl (zVals ?_) rfl (And.intro rfl (Nat.le_of_ble_eq_true rfl)) wVals ?_)
  | (with_reducible refine K_st 9 ?_); (first
   | refine W.storeE sz9.h rfl rfl rfl (zMems ?_) rfl (And.intro rfl (Nat.le_of_ble_eq_true rfl)) wMems ?_
   | refine W.storeE sz9.h rfl rfl rfl (zSyms ?_) rfl (And.intro rfl (Nat.le_of_ble_eq_true rfl)) wSyms ?_
   | refine W.storeE sz9.h rfl rfl rfl (zRaws ?_) rfl (And.intro rfl (Nat.le_of_ble_eq_true rfl)) wRaws ?_
   | refine W.storeE sz9.h rfl rfl rfl (zVals ?_) rfl (And.intro rfl (Nat.le_of_ble_eq_true rfl)) wVals ?_)
  | (with_reducible refine K_st 29 ?_); (first
   | refine W.storeE sz29.h rfl rfl rfl (zBools ?_) rfl (And.intro rfl (Nat.le_of_ble_eq_true rfl)) wBools ?_
   | refine W.storeE sz29.h rfl rfl rfl (zMat ?_) rfl (And.intro rfl (Nat.le_of_ble_eq_true rfl)) wMat ?_)
  | (with_reducible refine K_st 38 ?_); (first
   | refine W.storeE sz38.h rfl rfl rfl (zMat ?_) rfl (And.intro rfl (Nat.le_of_ble_eq_true rfl)) wMat ?_
   | refine W.storeE sz38.h rfl rfl rfl (zInts ?_) rfl (And.intro rfl (Nat.le_of_ble_eq_true rfl)) wInts ?_
   | refine W.storeE sz38.h rfl rfl rfl (zBools ?_) rfl (And.intro rfl (Nat.le_of_ble_eq_true rfl)) wBools ?_)
  | (with_reducible refine K_st 58 ?_); (first
   | refine W.storeE sz58.h rfl rfl rfl (zEdges ?_) rfl (And.intro rfl (Nat.le_of_ble_eq_true rfl)) wEdges ?_
   | refine W.storeE sz58.h rfl rfl rfl (zInts ?_) rfl (And.intro rfl (Nat.le_of_ble_eq_true rfl)) wInts ?_)
  | (with_reducible refine K_st 60 ?_); (first
   | refine W.storeE sz60.h rfl rfl rfl (zEdges ?_) rfl (And.intro rfl (Nat.le_of_ble_eq_true rfl)) wEdges ?_
   | refine W.storeE sz60.h rfl rfl rfl (zMsgs ?_) rfl (And.intro rfl (Nat.le_of_ble_eq_true rfl)) wMsgs ?_
   | refine W.storeE sz60.h rfl rfl rfl (zTyps ?_) rfl (And.intro rfl (Nat.le_of_ble_eq_true rfl)) wTyps ?_
   | refine W.storeE sz60.h rfl rfl rfl (zInts ?_) rfl (And.intro rfl (Nat.le_of_ble_eq_true rfl)) wInts ?_)
  | (with_reducible refine K_st 62 ?_); (first
   | refine W.storeE sz62.h rfl rfl rfl (zInts ?_) rfl (And.intro rfl (Nat.le_of_ble_eq_true rfl)) wInts ?_
   | refine W.storeE sz62.h rfl rfl rfl (zStrs ?_) rfl (And.intro rfl (Nat.le_of_ble_eq_true rfl)) wStrs ?_
   | refine W.storeE sz62.h rfl rfl rfl (zCalls ?_) rfl (And.intro rfl (Nat.le_of_ble_eq_true rfl)) wCalls ?_
   | refine W.storeE sz62.h rfl rfl rfl (zSess ?_) rfl (And.intro rfl (Nat.le_of_ble_eq_true rfl)) wSess ?_
   | refine W.storeE sz62.h rfl rfl rfl (zTops ?_) rfl (And.intro rfl (Nat.le_of_ble_eq_true rfl)) wTops ?_)
  | (with_reducible refine K_st 65 ?_); (first
   | refine W.storeE sz65.h rfl rfl rfl (zCalls ?_) rfl (And.intro rfl (Nat.le_of_ble_eq_true rfl)) wCalls ?_
   | refine W.storeE sz65.h rfl rfl rfl (zSess ?_) rfl (And.intro rfl (Nat.le_of_ble_eq_true rfl)) wSess ?_
   | refine W.storeE sz65.h rfl rfl rfl (zTops ?_) rfl (And.intro rfl (Nat.le_of_ble_eq_true rfl)) wTops ?_)
  | (with_reducible refine K_st 77 ?_); refine W.storeE sz77.h rfl rfl rfl (zStrs ?_) rfl (And.intro rfl (Nat.le_of_ble_eq_true rfl)) wStrs ?_
  | (with_reducible refine K_st 81 ?_); refine W.storeE sz81.h rfl rfl rfl (zInts ?_) rfl (And.intro rfl (Nat.le_of_ble_eq_true rfl)) wInts ?_
  | (with_reducible refine K_st 88 ?_); (first
   | refine W.storeE sz88.h rfl rfl rfl (zInts ?_) rfl (And.intro rfl (Nat.le_of_ble_eq_true rfl)) wInts ?_
   | refine W.storeE sz88.h rfl rfl rfl (zStrs ?_) rfl (And.intro rfl (Nat.le_of_ble_eq_true rfl)) wStrs ?_)
  | (with_reducible refine K_st 94 ?_); refine W.storeE sz94.h rfl rfl rfl (zInts ?_) rfl (And.intro rfl (Nat.le_of_ble_eq_true rfl)) wInts ?_
  | (with_reducible refine K_st 98 ?_); (first
   | refine W.storeE sz98.h rfl rfl rfl (zTops ?_) rfl (And.intro rfl (Nat.le_of_ble_eq_true rfl)) wTops ?_
   | refine W.storeE sz98.h rfl rfl rfl (zCalls ?_) rfl (And.intro rfl (Nat.le_of_ble_eq_true rfl)) wCalls ?_
   | refine W.storeE sz98.h rfl rfl rfl (zSess ?_) rfl (And.intro rfl (Nat.le_of_ble_eq_true rfl)) wSess ?_)
  | (with_reducible refine K_st 113 ?_); (first
   | refine W.storeE sz113.h rfl rfl rfl (zStrs ?_) rfl (And.intro rfl (Nat.le_of_ble_eq_true rfl)) wStrs ?_
   | refine W.storeE sz113.h rfl rfl rfl (zMsgs ?_) rfl (And.intro rfl (Nat.le_of_ble_eq_true rfl)) wMsgs ?_
   | refine W.storeE sz113.h rfl rfl rfl (zEdges ?_) rfl (And.intro rfl (Nat.le_of_ble_eq_true rfl)) wEdges ?_
   | refine W.storeE sz113.h rfl rfl rfl (zTyps ?_) rfl (And.intro rfl (Nat.le_of_ble_eq_true rfl)) wTyps ?_)
  | (with_reducible refine K_st 116 ?_); refine W.storeE sz116.h rfl rfl rfl (zStrs ?_) rfl (And.intro rfl (Nat.le_of_ble_eq_true rfl)) wStrs ?_
  | (with_reducible refine K_st 127 ?_); (first
   | refine W.storeE sz127.h rfl rfl rfl (zMems ?_) rfl (And.intro rfl (Nat.le_of_ble_eq_true rfl)) wMems ?_
   | refine W.storeE sz127.h rfl rfl rfl (zSyms ?_) rfl (And.intro rfl (Nat.le_of_ble_eq_true rfl)) wSyms ?_)
  | (with_reducible refine K_st 128 ?_); (first
   | refine W.storeE sz128.h rfl rfl rfl (zMems ?_) rfl (And.intro rfl (Nat.le_of_ble_eq_true rfl)) wMems ?_
   | refine W.storeE sz128.h rfl rfl rfl (zSyms ?_) rfl (And.intro rfl (Nat.le_of_ble_eq_true rfl)) wSyms ?_)
  | (with_reducible refine K_st 130 ?_); (first
   | refine W.storeE sz130.h rfl rfl rfl (zMems ?_) rfl (And.intro rfl (Nat.le_of_ble_eq_true rfl)) wMems ?_
   | refine W.storeE sz130.h rfl rfl rfl (zSyms ?_) rfl (And.intro rfl (Nat.le_of_ble_eq_true rfl)) wSyms ?_
   | refine W.storeE sz130.h rfl rfl rfl (zTyps ?_) rfl (And.intro rfl (Nat.le_of_ble_eq_true rfl)) wTyps ?_
   | refine W.storeE sz130.h rfl rfl rfl (zInts ?_) rfl (And.intro rfl (Nat.le_of_ble_eq_true rfl)) wInts ?_
   | refine W.storeE sz130.h rfl rfl rfl (zRaws ?_) rfl (And.intro rfl (Nat.le_of_ble_eq_true rfl)) wRaws ?_
   | refine W.storeE sz130.h rfl rfl rfl (zVals ?_) rfl (And.intro rfl (Nat.le_of_ble_eq_true rfl)) wVals ?_)
  | (with_reducible refine K_st 133 ?_); (first
   | refine W.storeE sz133.h rfl rfl rfl (zRaws ?_) rfl (And.intro rfl (Nat.le_of_ble_eq_true rfl)) wRaws ?_
   | refine W.storeE sz133.h rfl rfl rfl (zVals ?_) rfl (And.intro rfl (Nat.le_of_ble_eq_true rfl)) wVals ?_)
  | (with_reducible refine K_st 134 ?_); (first
   | refine W.storeE sz134.h rfl rfl rfl (zRaws ?_) rfl (And.intro rfl (Nat.le_of_ble_eq_true rfl)) wRaws ?_
   | refine W.storeE sz134.h rfl rfl rfl (zVals ?_) rfl (And.intro rfl (Nat.le_of_ble_eq_true rfl)) wVals ?_)
  | (with_reducible refine K_st 136 ?_); (first
   | refine W.storeE sz136.h rfl rfl rfl (zRaws ?_) rfl (And.intro rfl (Nat.le_of_ble_eq_true rfl)) wRaws ?_
   | refine W.storeE sz136.h rfl rfl rfl (zVals ?_) rfl (And.intro rfl (Nat.le_of_ble_eq_true rfl)) wVals ?_)
  | (with_reducible refine K_st 138 ?_); (first
   | refine W.storeE sz138.h rfl rfl rfl (zMems ?_) rfl (And.intro rfl (Nat.le_of_ble_eq_true rfl)) wMems ?_
   | refine W.storeE sz138.h rfl rfl rfl (zRaws ?_) rfl (And.intro rfl (Nat.le_of_ble_eq_true rfl)) wRaws ?_
   | refine W.storeE sz138.h rfl rfl rfl (zTyps ?_) rfl (And.intro rfl (Nat.le_of_ble_eq_true rfl)) wTyps ?_
   | refine W.storeE sz138.h rfl rfl rfl (zVals ?_) rfl (And.intro rfl (Nat.le_of_ble_eq_true rfl)) wVals ?_
   | refine W.storeE sz138.h rfl rfl rfl (zInts ?_) rfl (And.intro rfl (Nat.le_of_ble_eq_true rfl)) wInts ?_
   | refine W.storeE sz138.h rfl rfl rfl (zSyms ?_) rfl (And.intro rfl (Nat.le_of_ble_eq_true rfl)) wSyms ?_
   | refine W.storeE sz138.h rfl rfl rfl (zStrs ?_) rfl (And.intro rfl (Nat.le_of_ble_eq_true rfl)) wStrs ?_)
  | (with_reducible refine K_st 195 ?_); (first
   | refine W.storeE sz195.h rfl rfl rfl (zMems ?_) rfl (And.intro rfl (Nat.le_of_ble_eq_true rfl)) wMems ?_
   | refine W.storeE sz195.h rfl rfl rfl (zRaws ?_) rfl (And.intro rfl (Nat.le_of_ble_eq_true rfl)) wRaws ?_
   | refine W.storeE sz195.h rfl rfl rfl (zTyps ?_) rfl (And.intro rfl (Nat.le_of_ble_eq_true rfl)) wTyps ?_
   | refine W.storeE sz195.h rfl rfl rfl (zVals ?_) rfl (And.intro rfl (Nat.le_of_ble_eq_true rfl)) wVals ?_)
  | (with_reducible refine K_st 198 ?_); (first
   | refine W.storeE sz198.h rfl rfl rfl (zCalls ?_) rfl (And.intro rfl (Nat.le_of_ble_eq_true rfl)) wCalls ?_
   | refine W.storeE sz198.h rfl rfl rfl (zSess ?_) rfl (And.intro rfl (Nat.le_of_ble_eq_true rfl)) wSess ?_
   | refine W.storeE sz198.h rfl rfl rfl (zTops ?_) rfl (And.intro rfl (Nat.le_of_ble_eq_true rfl)) wTops ?_)
  | (with_reducible refine K_st 208 ?_); (first
   | refine W.storeE sz208.h rfl rfl rfl (zEdges ?_) rfl (And.intro rfl (Nat.le_of_ble_eq_true rfl)) wEdges ?_
   | refine W.storeE sz208.h rfl rfl rfl (zInts ?_) rfl (And.intro rfl (Nat.le_of_ble_eq_true rfl)) wInts ?_
   | refine W.storeE sz208.h rfl rfl rfl (zMsgs ?_) rfl (And.intro rfl (Nat.le_of_ble_eq_true rfl)) wMsgs ?_
   | refine W.storeE sz208.h rfl rfl rfl (zTyps ?_) rfl (And.intro rfl (Nat.le_of_ble_eq_true rfl)) wTyps ?_)
  | (with_reducible refine K_st 332 ?_); (first
   | refine W.storeE sz332.h rfl rfl rfl (zInts ?_) rfl (And.intro rfl (Nat.le_of_ble_eq_true rfl)) wInts ?_
   | refine W.storeE sz332.h rfl rfl rfl (zStrs ?_) rfl (And.intro rfl (Nat.le_of_ble_eq_true rfl)) wStrs ?_
   | refine W.storeE sz332.h rfl rfl rfl (zSyms ?_) rfl (And.intro rfl (Nat.le_of_ble_eq_true rfl)) wSyms ?_))
 exact q
 exact r) : P := h q r
theorem x2ix {P Q R : Prop} (q : Q) (r : R) (h : Q → R → P := by
 intro q r
 (first
  | (with_reducible refine K_ix 22 ?_); (first
   | refine W.idx rfl el22 rfl rfl (gTypsN ?_) ?_
   | refine W.idx rfl el22 rfl rfl (gTyps ?_) ?_
   | refine W.idxF rfl el22 rfl rfl rfl (gTyps ?_) ?_
   | refine W.idxO rfl el22 rfl rfl rfl ?_ ?_)
  | (with_reducible refine K_ix 25 ?_); (first
   | refine W.idx rfl el25 rfl rfl (gCallsN ?_) ?_
   | refine W.idx rfl el25 rfl rfl (gCalls ?_) ?_
   | refine W.idxF rfl el25 rfl rfl rfl (gCalls ?_) ?_
   | refine W.idxO rfl el25 rfl rfl rfl ?_ ?_)
  | (with_reducible refine K_ix 26 ?_); (first
   | refine W.idx rfl el26 rfl rfl (gSessN ?_) ?_
   | refine W.idx rfl el26 rfl rfl (gSess ?_) ?_
   | refine W.idxF rfl el26 rfl rfl rfl (gSess ?_) ?_
   | refine W.idxO rfl el26 rfl rfl rfl ?_ ?_)
  | (with_reducible refine K_ix 27 ?_); (first
   | refine W.idx rfl el27 rfl rfl (gTopsN ?_) ?_
   | refine W.idx rfl el27 rfl rfl (gTops ?_) ?_
   | refine W.idxF rfl el27 rfl rfl rfl (gTops ?_) ?_
   | refine W.idxO rfl el27 rfl rfl rfl ?_ ?_)
  | (with_reducible refine K_ix 36 ?_); (first
   | refine W.idxO rfl el36 rfl rfl rfl ?_ ?_
   | refine W.idx rfl el36 rfl rfl ?_ ?_)
  | (with_reducible refine K_ix 48 ?_); (first
   | refine W.idxO rfl el48 rfl rfl rfl ?_ ?_
   | refine W.idx rfl el48 rfl rfl ?_ ?_)
  | (with_reducible refine K_ix 57 ?_); (first
   | refine W.idx rfl el57 rfl rfl (gMsgsN ?_) ?_
   | refine W.idx rfl el57 rfl rfl (gMsgs ?_) ?_
   | refine W.idxF rfl el57 rfl rfl rfl (gMsgs ?_) ?_
   | refine W.idxO rfl el57 rfl rfl rfl ?_ ?_)
  | (with_reducible refine K_ix 58 ?_); (first
   | refine W.idx rfl el58 rfl rfl (gEdgesN ?_) ?_
   | refine W.idx rfl el58 rfl rfl (gEdges ?_) ?_
   | refine W.idxF rfl el58 rfl rfl rfl (gEdges ?_) ?_
   | refine W.idxO rfl el58 rfl rfl rfl ?_ ?_)
  | (with_reducible refine K_ix 86 ?_); (first
   | refine W.idx rfl el86 rfl rfl (gIntsN ?_) ?_
   | refine W.idx rfl el86 rfl rfl (gInts ?_) ?_
   | refine W.idxF rfl el86 rfl rfl rfl (gInts ?_) ?_
   | refine W.idxO rfl el86 rfl rfl rfl ?_ ?_)
  | (with_reducible refine K_ix 116 ?_); (first
   | refine W.idx rfl el116 rfl rfl (gStrsN ?_) ?_
   | refine W.idx rfl el116 rfl rfl (gStrs ?_) ?_
   | refine W.idxF rfl el116 rfl rfl rfl (gStrs ?_) ?_
   | refine W.idxO rfl el116 rfl rfl rfl ?_ ?_)
  | (with_reducible refine K_ix 118 ?_); (first
   | refine W.idx rfl el118 rfl rfl (gBoolsN ?_) ?_
   | refine W.idx rfl el118 rfl rfl (gBools ?_) ?_
   | refine W.idxF rfl el118 rfl rfl rfl (gBools ?_) ?_
   | refine W.idxO rfl el118 rfl rfl rfl ?_ ?_)
  | (with_reducible refine K_ix 127 ?_); (first
   | refine W.idx rfl el127 rfl rfl (gSymsN ?_) ?_
   | refine W.idx rfl el127 rfl rfl (gSyms ?_) ?_
   | refine W.idxF rfl el127 rfl rfl rfl (gSyms ?_) ?_
   | refine W.idxO rfl el127 rfl rfl rfl ?_ ?_)
  | (with_reducible refine K_ix 128 ?_); (first
   | refine W.idx rfl el128 rfl rfl (gMemsN ?_) ?_
   | refine W.idx rfl el128 rfl rfl (gMems ?_) ?_
   | refine W.idxF rfl el128 rfl rfl rfl (gMems ?_) ?_
   | refine W.idxO rfl el128 rfl rfl rfl ?_ ?_)
  | (with_reducible refine K_ix 133 ?_); (first
   | refine W.idx rfl el133 rfl rfl (gValsN ?_) ?_
   | refine W.idx rfl el133 rfl rfl (gVals ?_) ?_
   | refine W.idxF rfl el133 rfl rfl rfl (gVals ?_) ?_
   | refine W.idxO rfl el133 rfl rfl rfl ?_ ?_)
  | (with_reducible refine K_ix 134 ?_); (first
   | refine W.idx rfl el134 rfl rfl (gRawsN ?_) ?_
   | refine W.idx rfl el134 rfl rfl (gRaws ?_) ?_
   | refine W.idxF rfl el134 rfl rfl rfl (gRaws ?_) ?_
   | refine W.idxO rfl el134 rfl rfl rfl ?_ ?_))
 exact q
 exact r) : P := h q r
theorem x2bu {P Q R : Prop} (q : Q) (r : R) (h : Q → R → P := by
 intro q r
 (first
  | (with_reducible refine K_bu .append 45 ?_); (first
   | refine W.appO _ rfl m64 ef45 is45 rfl rfl rfl rfl ?_ sMat ?_
   | refine W.appO _ rfl m64 ef45 is45 rfl rfl rfl rfl ?_ aMat ?_
   | refine W.appO _ rfl m64 ef45 is45 rfl rfl rfl rfl ?_ rfl ?_
   | refine W.appZ _ rfl m64 ef45 is45 rfl rfl rfl ?_ oMat ?_
   | refine W.appZ _ rfl m64 ef45 is45 rfl rfl rfl ?_ rfl ?_)
  | (with_reducible refine K_bu .append 58 ?_); (first
   | refine W.appO _ rfl m64 ef58 is58 rfl rfl rfl rfl ?_ sEdgesC ?_
   | refine W.appO _ rfl m64 ef58 is58 rfl rfl rfl rfl ?_ aEdges ?_
   | refine W.appO _ rfl m64 ef58 is58 rfl rfl rfl rfl ?_ rfl ?_
   | refine W.appZ _ rfl m64 ef58 is58 rfl rfl rfl ?_ rfl ?_)
  | (with_reducible refine K_bu .append 86 ?_); (first
   | refine W.appO _ rfl m64 ef86 is86 rfl rfl rfl rfl ?_ sInts ?_
   | refine W.appO _ rfl m64 ef86 is86 rfl rfl rfl rfl ?_ aInts ?_
   | refine W.appO _ rfl m64 ef86 is86 rfl rfl rfl rfl ?_ rfl ?_
   | refine W.appZ _ rfl m64 ef86 is86 rfl rfl rfl ?_ oInts ?_
   | refine W.appZ _ rfl m64 ef86 is86 rfl rfl rfl ?_ rfl ?_)
  | (with_reducible refine K_bu .append 116 ?_); (first
   | refine W.appO _ rfl m64 ef116 is116 rfl rfl rfl rfl ?_ sStrs ?_
   | refine W.appO _ rfl m64 ef116 is116 rfl rfl rfl rfl ?_ aStrs ?_
   | refine W.appO _ rfl m64 ef116 is116 rfl rfl rfl rfl ?_ rfl ?_
   | refine W.appZ _ rfl m64 ef116 is116 rfl rfl rfl ?_ oStrs ?_
   | refine W.appZ _ rfl m64 ef116 is116 rfl rfl rfl ?_ rfl ?_)
  | (with_reducible refine K_bu .append 118 ?_); (first
   | refine W.appO _ rfl m64 ef118 is118 rfl rfl rfl rfl ?_ sBools ?_
   | refine W.appO _ rfl m64 ef118 is118 rfl rfl rfl rfl ?_ aBools ?_
   | refine W.appO _ rfl m64 ef118 is118 rfl rfl rfl rfl ?_ rfl ?_
   | refine W.appZ _ rfl m64 ef118 is118 rfl rfl rfl ?_ oBools ?_
   | refine W.appZ _ rfl m64 ef118 is118 rfl rfl rfl ?_ rfl ?_))
 exact q
 exact r) : P := h q r
theorem wA {P Q : Prop} (q : Q) (h : Q → P := by
 intro q
 (first
 | (repeat1' ((with_reducible refine W_at ?_); (first
  | ((with_reducible refine K_nl ?_); (first
   | refine W.nil ?_
   | refine W.nilD ?_ ?_; (focus kernel_rfl)))
  | ((with_reducible refine K_mv ?_); refine W.move rfl rfl ?_)
  | ((with_reducible refine K_ld _ ?_); (first
   | refine W.ld rfl rfl rfl rfl ?_
   | (with_reducible refine K_la 1 ?_); refine W.la (n := 1) (cs2 := [_]) rfl rfl rfl rfl ?_
   | (with_reducible refine K_la 2 ?_); refine W.la (n := 2) (cs2 := [_, _]) rfl rfl rfl rfl ?_
   | (with_reducible refine K_la 3 ?_); refine W.la (n := 3) (cs2 := [_, _, _]) rfl rfl rfl rfl ?_
   | (with_reducible refine K_la 4 ?_); refine W.la (n := 4) (cs2 := [_, _, _, _]) rfl rfl rfl rfl ?_
   | (with_reducible refine K_la 5 ?_); refine W.la (n := 5) (cs2 := [_, _, _, _, _]) rfl rfl rfl rfl ?_
   | (with_reducible refine K_la 6 ?_); refine W.la (n := 6) (cs2 := [_, _, _, _, _, _]) rfl rfl rfl rfl ?_
   | (with_reducible refine K_la 7 ?_); refine W.la (n := 7) (cs2 := [_, _, _, _, _, _, _]) rfl rfl rfl rfl ?_
   | (with_reducible refine K_la 8 ?_); refine W.la (n := 8) (cs2 := [_, _, _, _, _, _, _, _]) rfl rfl rfl rfl ?_
   | (with_reducible refine K_la 10 ?_); refine W.la (n := 10) (cs2 := [_, _, _, _, _, _, _, _, _, _]) rfl rfl rfl rfl ?_
   | (with_reducible refine K_la 13 ?_); refine W.la (n := 13) (cs2 := [_, _, _, _, _, _, _, _, _, _, _, _, _]) rfl rfl rfl rfl ?_
   | (with_reducible refine K_la 27 ?_); refine W.la (n := 27) (cs2 := [_, _, _, _, _, _, _, _, _, _, _, _, _, _, _, _, _, _, _, _, _, _, _, _, _, _, _]) rfl rfl rfl rfl ?_))
  | ((with_reducible refine K_fa _ _ ?_); refine W.fa rfl rfl rfl ?_)
  | ((with_reducible refine K_bn _ _ ?_); (first
   | (with_reducible refine K_bn .add _ ?_); refine W.addI rfl rfl rfl ?_ ?_; (focus (clear q; omega))
   | (with_reducible refine K_bn .sub _ ?_); refine W.subI rfl rfl rfl ?_ ?_; (focus (clear q; omega))
   | (with_reducible refine K_bn .mul _ ?_); refine W.mulI rfl rfl rfl ?_ ?_; (focus (clear q; omega))
   | (with_reducible refine K_bn .eql 4 ?_); refine W.eqB rfl ib4 rfl rfl ?_
   | (with_reducible refine K_bn .neq 4 ?_); refine W.neB rfl ib4 rfl rfl ?_
   | (with_reducible refine K_bn .eql _ ?_); refine W.seq rfl Tryz.underlying9 rfl rfl ?_
   | (with_reducible refine K_bn .neq _ ?_); refine W.sne rfl Tryz.underlying9 rfl rfl ?_
   | (with_reducible refine K_bn .lss _ ?_); refine W.slss rfl rfl rfl ?_
   | (with_reducible refine K_bn .gtr _ ?_); refine W.sgtr rfl rfl rfl ?_
   | refine W.bin rfl rfl rfl rfl ?_))
  | ((with_reducible refine K_st _ ?_); (first
   | refine W.st (cs2 := [_]) rfl rfl rfl rfl ?_
   | refine W.st (cs2 := [_, _]) rfl rfl rfl rfl ?_
   | refine W.st (cs2 := [_, _, _]) rfl rfl rfl rfl ?_
   | refine W.st (cs2 := [_, _, _, _]) rfl rfl rfl rfl ?_
   | refine W.st (cs2 := [_, _, _, _, _]) rfl rfl rfl rfl ?_
   | refine W.st (cs2 := [_, _, _, _, _, _]) rfl rfl rfl rfl ?_
   | refine W.st (cs2 := [_, _, _, _, _, _, _, _]) rfl rfl rfl rfl ?_
   | refine W.st (cs2 := [_, _, _, _, _, _, _, _, _, _]) rfl rfl rfl rfl ?_
   | refine W.st (cs2 := [_, _, _, _, _, _, _, _, _, _, _, _, _]) rfl rfl rfl rfl ?_
   | refine W.st (cs2 := [_, _, _, _, _, _, _, _, _, _, _, _, _, _, _, _, _, _, _, _, _, _, _, _, _, _, _]) rfl rfl rfl rfl ?_))
  | ((with_reducible refine K_as ?_); refine W.assign rfl rfl ?_)
  | ((with_reducible refine K_g ?_); (first
   | refine W.gT rfl rfl ?_
   | refine W.gF rfl rfl rfl rfl ?_
   | refine W.gU rfl rfl rfl ?_))
  | ((with_reducible refine K_bx _ ?_); (first
   | (with_reducible refine K_bx 3 ?_); refine W.box _ rfl m64 rfl ?_
   | (with_reducible refine K_bx 4 ?_); refine W.box _ rfl m64 rfl ?_
   | (with_reducible refine K_bx 24 ?_); refine W.box _ rfl m64 rfl ?_
   | (with_reducible refine K_bx 29 ?_); refine W.box _ rfl m64 rfl ?_
   | (with_reducible refine K_bx 31 ?_); refine W.box _ rfl m64 rfl ?_
   | (with_reducible refine K_bx 38 ?_); refine W.box _ rfl m64 rfl ?_
   | (with_reducible refine K_bx 60 ?_); refine W.box _ rfl m64 rfl ?_
   | (with_reducible refine K_bx 62 ?_); refine W.box _ rfl m64 rfl ?_
   | (with_reducible refine K_bx 113 ?_); refine W.box _ rfl m64 rfl ?_
   | (with_reducible refine K_bx 130 ?_); refine W.box _ rfl m64 rfl ?_
   | (with_reducible refine K_bx 136 ?_); refine W.box _ rfl m64 rfl ?_
   | (with_reducible refine K_bx 138 ?_); refine W.box _ rfl m64 rfl ?_
   | (with_reducible refine K_bx 208 ?_); refine W.box _ rfl m64 rfl ?_
   | (with_reducible refine K_bx 332 ?_); refine W.box _ rfl m64 rfl ?_))
  | ((with_reducible refine K_un _ ?_); (with_reducible refine K_un .not ?_); (first
   | refine W.notL (b' := true) rfl rfl rfl ?_
   | refine W.notL (b' := false) rfl rfl rfl ?_
   | refine W.notP rfl rfl ?_
   | refine W.not rfl rfl ?_))
  | ((with_reducible refine K_pk ?_); (first
   | refine W.pickT rfl rfl rfl ?_
   | refine W.pickF rfl rfl rfl ?_))
  | ((with_reducible refine K_bu _ _ ?_); (first
   | (with_reducible refine K_bu .min 3 ?_); refine W.minI rfl rfl rfl rfl ?_
   | (with_reducible refine K_bu .max 3 ?_); refine W.maxI rfl rfl rfl rfl ?_
   | (with_reducible refine K_bu .len 9 ?_); refine W.slen rfl Tryz.underlying9 rfl ?_
   | (with_reducible refine K_bu .len 22 ?_); (first
    | refine W.len rfl el22 rfl rfl lTyps ?_
    | refine W.len rfl el22 rfl rfl rfl ?_)
   | (with_reducible refine K_bu .len 25 ?_); (first
    | refine W.len rfl el25 rfl rfl lCalls ?_
    | refine W.len rfl el25 rfl rfl rfl ?_)
   | (with_reducible refine K_bu .len 26 ?_); (first
    | refine W.len rfl el26 rfl rfl lSess ?_
    | refine W.len rfl el26 rfl rfl rfl ?_)
   | (with_reducible refine K_bu .len 27 ?_); (first
    | refine W.len rfl el27 rfl rfl lTops ?_
    | refine W.len rfl el27 rfl rfl rfl ?_)
   | (with_reducible refine K_bu .len 36 ?_); refine W.len rfl el36 rfl rfl rfl ?_
   | (with_reducible refine K_bu .len 45 ?_); (first
    | refine W.len rfl el45 rfl rfl lMat ?_
    | refine W.len rfl el45 rfl rfl rfl ?_)
   | (with_reducible refine K_bu .len 48 ?_); refine W.len rfl el48 rfl rfl rfl ?_
   | (with_reducible refine K_bu .len 57 ?_); (first
    | refine W.len rfl el57 rfl rfl lMsgs ?_
    | refine W.len rfl el57 rfl rfl rfl ?_)
   | (with_reducible refine K_bu .len 58 ?_); (first
    | refine W.len rfl el58 rfl rfl lEdges ?_
    | refine W.len rfl el58 rfl rfl rfl ?_)
   | (with_reducible refine K_bu .len 86 ?_); (first
    | refine W.len rfl el86 rfl rfl lInts ?_
    | refine W.len rfl el86 rfl rfl rfl ?_)
   | (with_reducible refine K_bu .len 116 ?_); (first
    | refine W.len rfl el116 rfl rfl lStrs ?_
    | refine W.len rfl el116 rfl rfl rfl ?_)
   | (with_reducible refine K_bu .len 118 ?_); (first
    | refine W.len rfl el118 rfl rfl lBools ?_
    | refine W.len rfl el118 rfl rfl rfl ?_)
   | (with_reducible refine K_bu .len 127 ?_); (first
    | refine W.len rfl el127 rfl rfl lSyms ?_
    | refine W.len rfl el127 rfl rfl rfl ?_)
   | (with_reducible refine K_bu .len 128 ?_); (first
    | refine W.len rfl el128 rfl rfl lMems ?_
    | refine W.len rfl el128 rfl rfl rfl ?_)
   | (with_reducible refine K_bu .len 133 ?_); (first
    | refine W.len rfl el133 rfl rfl lVals ?_
    | refine W.len rfl el133 rfl rfl rfl ?_)
   | (with_reducible refine K_bu .len 134 ?_); (first
    | refine W.len rfl el134 rfl rfl lRaws ?_
    | refine W.len rfl el134 rfl rfl rfl ?_)))
  | ((with_reducible refine K_ex ?_); refine W.extract rfl rfl rfl ?_)
  | ((with_reducible refine K_al _ ?_); (first
   | (with_reducible refine K_al 29 ?_); refine W.alloc _ rfl m64 zr29 ?_
   | (with_reducible refine K_al 38 ?_); refine W.alloc _ rfl m64 zr38 ?_
   | (with_reducible refine K_al 60 ?_); refine W.alloc _ rfl m64 zr60 ?_
   | (with_reducible refine K_al 62 ?_); refine W.alloc _ rfl m64 zr62 ?_
   | (with_reducible refine K_al 65 ?_); refine W.alloc _ rfl m64 zr65 ?_
   | (with_reducible refine K_al 77 ?_); refine W.alloc _ rfl m64 zr77 ?_
   | (with_reducible refine K_al 81 ?_); refine W.alloc _ rfl m64 zr81 ?_
   | (with_reducible refine K_al 88 ?_); refine W.alloc _ rfl m64 zr88 ?_
   | (with_reducible refine K_al 94 ?_); refine W.alloc _ rfl m64 zr94 ?_
   | (with_reducible refine K_al 98 ?_); refine W.alloc _ rfl m64 zr98 ?_
   | (with_reducible refine K_al 105 ?_); refine W.alloc _ rfl m64 zr105 ?_
   | (with_reducible refine K_al 113 ?_); refine W.alloc _ rfl m64 zr113 ?_
   | (with_reducible refine K_al 130 ?_); refine W.alloc _ rfl m64 zr130 ?_
   | (with_reducible refine K_al 136 ?_); refine W.alloc _ rfl m64 zr136 ?_
   | (with_reducible refine K_al 138 ?_); refine W.alloc _ rfl m64 zr138 ?_
   | (with_reducible refine K_al 195 ?_); refine W.alloc _ rfl m64 zr195 ?_
   | (with_reducible refine K_al 198 ?_); refine W.alloc _ rfl m64 zr198 ?_
   | (with_reducible refine K_al 208 ?_); refine W.alloc _ rfl m64 zr208 ?_
   | (with_reducible refine K_al 332 ?_); refine W.alloc _ rfl m64 zr332 ?_))
  | ((with_reducible refine K_bd _ ?_); (first
   | (with_reducible refine K_bd 38 ?_); refine W.build (cs2 := [_, _, _, _]) rfl pl38 rfl rfl ?_
   | (with_reducible refine K_bd 60 ?_); refine W.build (cs2 := [_, _, _]) rfl pl60 rfl rfl ?_
   | (with_reducible refine K_bd 77 ?_); refine W.build (cs2 := [_, _, _, _, _, _, _, _, _, _]) rfl pl77 rfl rfl ?_
   | (with_reducible refine K_bd 88 ?_); refine W.build (cs2 := [_, _, _]) rfl pl88 rfl rfl ?_
   | (with_reducible refine K_bd 113 ?_); refine W.build (cs2 := [_, _, _]) rfl pl113 rfl rfl ?_
   | (with_reducible refine K_bd 130 ?_); refine W.build (cs2 := [_, _, _, _, _, _, _, _, _, _]) rfl pl130 rfl rfl ?_
   | (with_reducible refine K_bd 136 ?_); refine W.build (cs2 := [_, _, _, _, _, _, _, _]) rfl pl136 rfl rfl ?_
   | (with_reducible refine K_bd 198 ?_); refine W.build (cs2 := [_]) rfl pl198 rfl rfl ?_
   | (with_reducible refine K_bd 208 ?_); refine W.build (cs2 := [_, _, _, _]) rfl pl208 rfl rfl ?_))
  | ((with_reducible refine K_bs _ ?_); (first
   | (with_reducible refine K_bs 45 ?_); refine W.bs (rows := [[_]]) _ rfl m64 ef45 rfl rfl rfl ?_
   | (with_reducible refine K_bs 48 ?_); refine W.bs (rows := [[_, _, _, _, _]]) _ rfl m64 ef48 rfl rfl rfl ?_
   | (with_reducible refine K_bs 58 ?_); refine W.bs (rows := [[_, _, _, _]]) _ rfl m64 ef58 rfl rfl rfl ?_
   | (with_reducible refine K_bs 86 ?_); (first
    | refine W.bs (rows := [[_]]) _ rfl m64 ef86 rfl rfl rfl ?_
    | refine W.bs (rows := [[_], [_], [_]]) _ rfl m64 ef86 rfl rfl rfl ?_
    | refine W.bs (rows := [[_], [_]]) _ rfl m64 ef86 rfl rfl rfl ?_)
   | (with_reducible refine K_bs 116 ?_); (first
    | refine W.bs (rows := [[_], [_]]) _ rfl m64 ef116 rfl rfl rfl ?_
    | refine W.bs (rows := [[_]]) _ rfl m64 ef116 rfl rfl rfl ?_)
   | (with_reducible refine K_bs 118 ?_); refine W.bs (rows := [[_]]) _ rfl m64 ef118 rfl rfl rfl ?_))
  | ((with_reducible refine K_nc ?_); refine W.nilCheck rfl rfl rfl ?_)
  | ((with_reducible refine K_cv _ _ ?_); (first
   | (with_reducible refine K_cv 2 229 ?_); (first
    | refine W.conv rfl ik2 ik229 rfl (wrap_u64 ?_) ?_; (focus (clear q; omega))
    | refine W.conv rfl ik2 ik229 rfl rfl ?_)
   | (with_reducible refine K_cv 5 229 ?_); (first
    | refine W.conv rfl ik5 ik229 rfl (wrap_u64 ?_) ?_; (focus (clear q; omega))
    | refine W.conv rfl ik5 ik229 rfl rfl ?_))))))
 | (repeat1' (with_reducible (first | refine JL.seq ?_ | refine JL.skip ?_ | refine JL.exit ?_ | refine JL.ret ?_ | refine JL.nil ?_ | refine outOf_normal ?_ | refine outOf_same ?_ | refine outOf_other rfl ?_ | refine outOf_ret ?_ | refine thenL_normal ?_ | refine thenL_exit ?_ | refine thenL_ret ?_ | refine roundOf_exit ?_ | refine roundOf_ret ?_)))
 | (with_reducible refine C_at ?_); (first | refine JL.condT rfl ?_ | refine JL.condF rfl ?_)
 | (with_reducible refine rg ?_ ?_); (focus exact rfl))
 exact q) : P := h q
theorem wB {P Q R : Prop} (q : Q) (r : R) (h : Q → R → P := by
 intro q r
 (with_reducible refine W_at ?_)
 (first
  | ((with_reducible refine K_ld _ ?_); refine x2ld ?_ ?_)
  | ((with_reducible refine K_bn _ _ ?_); refine x2bn ?_ ?_)
  | ((with_reducible refine K_st _ ?_); refine x2st ?_ ?_)
  | ((with_reducible refine K_ix _ ?_); refine x2ix ?_ ?_)
  | ((with_reducible refine K_bu _ _ ?_); refine x2bu ?_ ?_)
  | ((with_reducible refine K_mk _ ?_); (first
   | (with_reducible refine K_mk 86 ?_); refine W.make _ rfl m64 ef86 ns3 rfl rfl rfl ?_ rInts ?_
   | (with_reducible refine K_mk 118 ?_); refine W.make _ rfl m64 ef118 ns4 rfl rfl rfl ?_ rBools ?_))
  | ((with_reducible refine K_in _ ?_); (with_reducible refine K_in 9 ?_); (first
   | refine W.sidxN rfl Tryz.underlying9 rfl rfl ?_ ?_
   | refine W.sidx rfl Tryz.underlying9 rfl rfl ?_ ?_))
  | ((with_reducible refine K_sl _ ?_); (with_reducible refine K_sl 26 ?_); refine W.slice rfl el26 rfl rfl rfl ?_ nSess ?_))
 exact q
 exact r) : P := h q r
theorem wC {P Q R : Prop} (q : Q) (r : R) (h : Q → R → P := by
 intro q r
 (first
 | (with_reducible refine C_at ?_); (first | refine JL.condN rfl ?_ ?_ | refine JL.condP rfl ?_ ?_ | refine JL.cond rfl ?_ ?_)
 | (with_reducible refine W_at ?_); (with_reducible refine K_g ?_); (first | refine W.gSN rfl rfl ?_ ?_ | refine W.gS rfl rfl ?_ ?_ | refine W.gSB rfl rfl ?_ ?_))
 exact q
 exact r) : P := h q r
theorem kA {P : Prop} (h : P := by
 (first
 | (with_reducible (first | exact chkT_nil | exact chkB_nil | exact avTo_dead | exact avTo_un | exact cellsTo_nl | exact cellTo_same | exact cellTo_zz))
 | (with_reducible refine avTo_tup ?_); (focus rfl)
 | (with_reducible refine CS_at ?_); exact cellsTo_same rfl
 | (with_reducible refine CE_at ?_); (first | exact cellTo_ow rfl | exact cellTo_pt rfl)
 | (with_reducible rfl)
 | (refine ND.mk ?_; kernel_rfl))) : P := h
theorem kB {P Q : Prop} (q : Q) (h : Q → P := by
 intro q
 (first
 | (with_reducible (first | refine chkB_none ?_ | refine avTo_w ?_ | refine boxTo_stw ?_ | refine boxTo_slw ?_ | refine boxTo_fzw ?_ | refine boxTo_mpw ?_))
 | (with_reducible refine T_at ?_); refine chkT_skip rfl ?_
 | (with_reducible refine B_at ?_); refine chkB_skip rfl ?_
 | (with_reducible refine CE_at ?_); (first | refine cellTo_int ?_ | refine cellTo_bool ?_ | refine cellTo_str ?_ | refine cellTo_sl ?_ | refine cellTo_zd ?_ | refine cellTo_fz rfl ?_))
 exact q) : P := h q
theorem kC {P Q R : Prop} (q : Q) (r : R) (h : Q → R → P := by
 intro q r
 (first
 | (with_reducible refine T_at ?_); refine chkT_cons rfl ?_ rfl ?_
 | (with_reducible refine B_at ?_); refine chkB_cons rfl ?_ rfl rfl ?_
 | (with_reducible refine cellsTo_cn ?_ ?_)
 | (with_reducible refine CS_at ?_); refine cellsTo_cn ?_ ?_)
 exact q
 exact r) : P := h q r
theorem kD {P : Prop} (h : P := by
 (with_reducible refine CE_at ?_)
 exact cellTo_rn rfl) : P := h
theorem oA {P : Prop} (h : P := by
 (first
 | exact OutVs.nil
 | exact OutCs.nil
 | with_reducible exact OutC.d rfl
 | exact OutC.zz
 | exact OutC.rp
 | with_reducible rfl)) : P := h
theorem oB {P Q : Prop} (q : Q) (h : Q → P := by
 intro q
 (first | refine OutC.int ?_ | refine OutC.bool ?_ | refine OutC.sl ?_ | refine OutC.own rfl ?_ | refine OutC.fz rfl ?_ | refine OutC.zero ?_ | refine OutC.d ?_)
 exact q) : P := h q
theorem oC {P Q R : Prop} (q : Q) (r : R) (h : Q → R → P := by
 intro q r
 (first | refine OutVs.cons ?_ ?_ | refine OutCs.cons ?_ ?_)
 exact q
 exact r) : P := h q r
theorem RC_at {a t : Nat} {l : List ResultVar} {vs : List (Bool × List C)} [LdC t] (h : ResW Tryz.prog tm bo (.cell a t :: l) vs) : ResW Tryz.prog tm bo (.cell a t :: l) vs := h
theorem RA_at {a t : Nat} {l : List ResultVar} {vs : List (Bool × List C)} (n : Nat) [LdA t n] (h : ResW Tryz.prog tm bo (.cell a t :: l) vs) : ResW Tryz.prog tm bo (.cell a t :: l) vs := h
theorem eW {fn : Func} {args : List Arg} {vs : List (Bool × List C)} {l : List ResultVar} {ys : List (Bool × List C)} (hfr : fn.results = l.toArray) (ho : OutVs (lko bo) vs ys) (hr : ResW Tryz.prog tm bo l vs := by
 (repeat' (first | exact ResW.nil | refine ResW.tmp rfl ?_ | (refine RC_at ?_; refine ResW.cell LdC.h rfl rfl rfl ?_) | (refine RA_at 1 ?_; refine ResW.cellA (cs' := [_]) (LdA.h (n := 1)) rfl rfl rfl ?_) | (refine RA_at 2 ?_; refine ResW.cellA (cs' := [_, _]) (LdA.h (n := 2)) rfl rfl rfl ?_) | (refine RA_at 3 ?_; refine ResW.cellA (cs' := [_, _, _]) (LdA.h (n := 3)) rfl rfl rfl ?_) | (refine RA_at 4 ?_; refine ResW.cellA (cs' := [_, _, _, _]) (LdA.h (n := 4)) rfl rfl rfl ?_) | (refine RA_at 5 ?_; refine ResW.cellA (cs' := [_, _, _, _, _]) (LdA.h (n := 5)) rfl rfl rfl ?_) | (refine RA_at 6 ?_; refine ResW.cellA (cs' := [_, _, _, _, _, _]) (LdA.h (n := 6)) rfl rfl rfl ?_) | (refine RA_at 7 ?_; refine ResW.cellA (cs' := [_, _, _, _, _, _, _]) (LdA.h (n := 7)) rfl rfl rfl ?_) | (refine RA_at 8 ?_; refine ResW.cellA (cs' := [_, _, _, _, _, _, _, _]) (LdA.h (n := 8)) rfl rfl rfl ?_) | (refine RA_at 10 ?_; refine ResW.cellA (cs' := [_, _, _, _, _, _, _, _, _, _]) (LdA.h (n := 10)) rfl rfl rfl ?_) | (refine RA_at 13 ?_; refine ResW.cellA (cs' := [_, _, _, _, _, _, _, _, _, _, _, _, _]) (LdA.h (n := 13)) rfl rfl rfl ?_) | (refine RA_at 27 ?_; refine ResW.cellA (cs' := [_, _, _, _, _, _, _, _, _, _, _, _, _, _, _, _, _, _, _, _, _, _, _, _, _, _, _]) (LdA.h (n := 27)) rfl rfl rfl ?_)))) (hio : args.all (fun a => !isIo a) = true := by exact rfl) : FinW Tryz.prog fn args { vals := ys } .ret ⟨tm, clean bo, nx⟩ := endW hfr hr ho hio
theorem eO {fn : Func} {args : List Arg} {vs : List (Bool × List C)} {l : List ResultVar} {ax : AX} {r : ARes} (hfr : fn.results = l.toArray) (h : outO (clean bo) vs args = some r) (hax : ax = .ret ∨ (ax = .normal ∧ l = []) := by
 (first | exact .inl rfl | exact .inr ⟨rfl, rfl⟩)) (hr : ResW Tryz.prog tm bo l vs := by
 (repeat' (first | exact ResW.nil | refine ResW.tmp rfl ?_ | (refine RC_at ?_; refine ResW.cell LdC.h rfl rfl rfl ?_) | (refine RA_at 1 ?_; refine ResW.cellA (cs' := [_]) (LdA.h (n := 1)) rfl rfl rfl ?_) | (refine RA_at 2 ?_; refine ResW.cellA (cs' := [_, _]) (LdA.h (n := 2)) rfl rfl rfl ?_) | (refine RA_at 3 ?_; refine ResW.cellA (cs' := [_, _, _]) (LdA.h (n := 3)) rfl rfl rfl ?_) | (refine RA_at 4 ?_; refine ResW.cellA (cs' := [_, _, _, _]) (LdA.h (n := 4)) rfl rfl rfl ?_) | (refine RA_at 5 ?_; refine ResW.cellA (cs' := [_, _, _, _, _]) (LdA.h (n := 5)) rfl rfl rfl ?_) | (refine RA_at 6 ?_; refine ResW.cellA (cs' := [_, _, _, _, _, _]) (LdA.h (n := 6)) rfl rfl rfl ?_) | (refine RA_at 7 ?_; refine ResW.cellA (cs' := [_, _, _, _, _, _, _]) (LdA.h (n := 7)) rfl rfl rfl ?_) | (refine RA_at 8 ?_; refine ResW.cellA (cs' := [_, _, _, _, _, _, _, _]) (LdA.h (n := 8)) rfl rfl rfl ?_) | (refine RA_at 10 ?_; refine ResW.cellA (cs' := [_, _, _, _, _, _, _, _, _, _]) (LdA.h (n := 10)) rfl rfl rfl ?_) | (refine RA_at 13 ?_; refine ResW.cellA (cs' := [_, _, _, _, _, _, _, _, _, _, _, _, _]) (LdA.h (n := 13)) rfl rfl rfl ?_) | (refine RA_at 27 ?_; refine ResW.cellA (cs' := [_, _, _, _, _, _, _, _, _, _, _, _, _, _, _, _, _, _, _, _, _, _, _, _, _, _, _]) (LdA.h (n := 27)) rfl rfl rfl ?_)))) : FinO Tryz.prog fn args r ax ⟨tm, clean bo, nx⟩ := by
 rcases hax with rfl | ⟨rfl, rfl⟩
 ·exact endO1 hfr hr h
 ·exact endO1n hfr hr h
theorem oM {P : Prop} (h : P := by
 (first
 | omega
 | (simp only [IntKind.bits, List.length_append, List.length_cons, List.length_nil, List.length_map, List.length_take, List.length_drop, List.length_replicate, List.length_range, List.length_set, lInts, lSets, lBools, lMat, lTabs, lMixes, lSteps, lNodes, lConfs, lEnts, lActs, lCtls, lSigs, lReps, lCalls, lEdges, lMems, lMsgs, lRaws, lSess, lStrs, lSyms, lTops, lTyps, lVals]; omega))) : P := h
theorem zC {P Q K : Prop} (c : K) (q : Q) (h : K → Q → P := by
 intro c q
 (first | refine W.call0A rfl BoC.h c rfl rfl rfl ?_ | refine W.call0T rfl BoC.h c rfl rfl rfl ?_ | refine W.call1A rfl BoC.h c rfl rfl rfl rfl rfl ?_ | refine W.call1T rfl BoC.h c rfl rfl rfl rfl rfl ?_)
 exact q) : P := h c q
theorem zI {P Q K : Prop} (c : K) (q : Q) (h : K → Q → P := by
 intro c q
 (first | refine W.callIO rfl BoC.h c rfl rfl rfl rfl rfl rfl rfl rfl rfl rfl rfl rfl rfl ?_)
 exact q) : P := h c q
end Go.Proofs.YtgehafnodibhpaaGreatDoor

