/- Rules of runs and contracts of functions, for the claims of one seat. -/
import Derived.Test.YtjpdemikmdfonaaGreatDoorFA12
import Derived.Test.YtjpdemikmdfonaaGreatDoorFA13
import Derived.Test.YtjpdemikmdfonaaGreatDoorFA14
namespace Go.Proofs.YtjpdemikmdfonaaGreatDoor
open Go Go.RowKit
set_option linter.unusedVariables false
set_option maxRecDepth 100000
theorem m64 {i k : Nat} (h : i * 64 = k := by
 (first | (simp only [Nat.reduceAdd, Nat.reduceMul]; done) | (simp only [Nat.reduceAdd, Nat.reduceMul]; exact rfl))) : i * 64 = k := h
variable {N : Nat} {dr : Bool} {cs : List Code} {R : AX → St → Prop} {tm : List (Nat × AV)} {bo : BO} {nx : Nat} {ops : Array Oper} {i : Nat} {os : List Oper} {ns : List Note} {d : Nat} {pos : String} {ty : TypeId} {af : Array Edge} {lend : FuncId → Bool}
theorem K_la {t : TypeId} {x : Operand} (n : Nat) [LdA t n] (h : W Tryz.prog lend N ops dr cs R i (⟨some d, .load t x, ty, pos, af, none⟩ :: os) tm bo nx ns) : W Tryz.prog lend N ops dr cs R i (⟨some d, .load t x, ty, pos, af, none⟩ :: os) tm bo nx ns := h
theorem W.la {t : TypeId} {x : Operand} {c : C} {cs' cs2 : List C} {off n : Nat} [hl : LdA t n] (hd : Nat.blt d N = true) (hx : (ev (lk tm) x).bind slot1 = some c) (hb : behind (lko bo) c = some (cs', off)) (hc : subC off n cs' = some cs2) (h : W Tryz.prog lend N ops dr cs R (i + 1) os ((d, .one true cs2) :: tm) bo nx (ns ++ [⟨opKeys (lk tm) (lko bo) ⟨some d, .load t x, ty, pos, af, none⟩, []⟩])) : W Tryz.prog lend N ops dr cs R i (⟨some d, .load t x, ty, pos, af, none⟩ :: os) tm bo nx ns := W.loadA hd hl.h hx hb hc h
theorem F_at {P : Program} {fn : Func} {args : List Arg} {r : ARes} {ax : AX} {st : St} (h : FinW P fn args r ax st) : FinW P fn args r ax st := h
theorem FO_at {P : Program} {fn : Func} {args : List Arg} {r : ARes} {ax : AX} {st : St} (h : FinO P fn args r ax st) : FinO P fn args r ax st := h
theorem x2ld {P Q R : Prop} (q : Q) (r : R) (h : Q → R → P := by
 intro q r
 (first
  | (with_reducible refine K_ld 2 ?_); (first
   | refine W.load rfl ld2.h rfl (behind_el rfl (zMems ?_)) rfl ?_
   | refine W.load rfl ld2.h rfl (behind_el rfl (zSyms ?_)) rfl ?_
   | refine W.load rfl ld2.h rfl (behind_el rfl (zInts ?_)) rfl ?_
   | refine W.load rfl ld2.h rfl (behind_el rfl (zRaws ?_)) rfl ?_
   | refine W.load rfl ld2.h rfl (behind_el rfl (zVals ?_)) rfl ?_
   | refine W.load rfl ld2.h rfl (behind_el rfl (zTyps ?_)) rfl ?_)
  | (with_reducible refine K_ld 3 ?_); (first
   | refine W.load rfl ld3.h rfl (behind_el rfl (zLnks ?_)) rfl ?_
   | refine W.load rfl ld3.h rfl (behind_el rfl (zSrvs ?_)) rfl ?_
   | refine W.load rfl ld3.h rfl (behind_el rfl (zVers ?_)) rfl ?_
   | refine W.load rfl ld3.h rfl (behind_el rfl (zBools ?_)) rfl ?_
   | refine W.load rfl ld3.h rfl (behind_el rfl (zMat ?_)) rfl ?_
   | refine W.load rfl ld3.h rfl (behind_el rfl (zInts ?_)) rfl ?_
   | refine W.load rfl ld3.h rfl (behind_el rfl (zTabs ?_)) rfl ?_
   | refine W.load rfl ld3.h rfl (behind_el rfl (zCalls ?_)) rfl ?_
   | refine W.load rfl ld3.h rfl (behind_el rfl (zSess ?_)) rfl ?_
   | refine W.load rfl ld3.h rfl (behind_el rfl (zTops ?_)) rfl ?_
   | refine W.load rfl ld3.h rfl (behind_el rfl (zTyps ?_)) rfl ?_
   | refine W.load rfl ld3.h rfl (behind_el rfl (zEdges ?_)) rfl ?_
   | refine W.load rfl ld3.h rfl (behind_el rfl (zMsgs ?_)) rfl ?_
   | refine W.load rfl ld3.h rfl (behind_el rfl (zMems ?_)) rfl ?_
   | refine W.load rfl ld3.h rfl (behind_el rfl (zSyms ?_)) rfl ?_
   | refine W.load rfl ld3.h rfl (behind_el rfl (zStrs ?_)) rfl ?_
   | refine W.load rfl ld3.h rfl (behind_el rfl (zRaws ?_)) rfl ?_
   | refine W.load rfl ld3.h rfl (behind_el rfl (zVals ?_)) rfl ?_)
  | (with_reducible refine K_ld 4 ?_); (first
   | refine W.load rfl ld4.h rfl (behind_el rfl (zSrvs ?_)) rfl ?_
   | refine W.load rfl ld4.h rfl (behind_el rfl (zBools ?_)) rfl ?_
   | refine W.load rfl ld4.h rfl (behind_el rfl (zInts ?_)) rfl ?_
   | refine W.load rfl ld4.h rfl (behind_el rfl (zMat ?_)) rfl ?_
   | refine W.load rfl ld4.h rfl (behind_el rfl (zMems ?_)) rfl ?_
   | refine W.load rfl ld4.h rfl (behind_el rfl (zSyms ?_)) rfl ?_
   | refine W.load rfl ld4.h rfl (behind_el rfl (zTyps ?_)) rfl ?_
   | refine W.load rfl ld4.h rfl (behind_el rfl (zStrs ?_)) rfl ?_
   | refine W.load rfl ld4.h rfl (behind_el rfl (zEdges ?_)) rfl ?_
   | refine W.load rfl ld4.h rfl (behind_el rfl (zRaws ?_)) rfl ?_
   | refine W.load rfl ld4.h rfl (behind_el rfl (zVals ?_)) rfl ?_)
  | (with_reducible refine K_ld 9 ?_); (first
   | refine W.load rfl ld9.h rfl (behind_el rfl (zLnks ?_)) rfl ?_
   | refine W.load rfl ld9.h rfl (behind_el rfl (zSrvs ?_)) rfl ?_
   | refine W.load rfl ld9.h rfl (behind_el rfl (zCalls ?_)) rfl ?_
   | refine W.load rfl ld9.h rfl (behind_el rfl (zSess ?_)) rfl ?_
   | refine W.load rfl ld9.h rfl (behind_el rfl (zTops ?_)) rfl ?_
   | refine W.load rfl ld9.h rfl (behind_el rfl (zVers ?_)) rfl ?_
   | refine W.load rfl ld9.h rfl (behind_el rfl (zMems ?_)) rfl ?_
   | refine W.load rfl ld9.h rfl (behind_el rfl (zSyms ?_)) rfl ?_
   | refine W.load rfl ld9.h rfl (behind_el rfl (zTyps ?_)) rfl ?_
   | refine W.load rfl ld9.h rfl (behind_el rfl (zEdges ?_)) rfl ?_
   | refine W.load rfl ld9.h rfl (behind_el rfl (zMsgs ?_)) rfl ?_
   | refine W.load rfl ld9.h rfl (behind_el rfl (zRaws ?_)) rfl ?_
   | refine W.load rfl ld9.h rfl (behind_el rfl (zVals ?_)) rfl ?_
   | refine W.load rfl ld9.h rfl (behind_el rfl (zInts ?_)) rfl ?_
   | refine W.load rfl ld9.h rfl (behind_el rfl (zStrs ?_)) rfl ?_)
  | (with_reducible refine K_ld 22 ?_); (first
   | refine W.load rfl ld22.h rfl (behind_el rfl (zLnks ?_)) rfl ?_
   | refine W.load rfl ld22.h rfl (behind_el rfl (zSrvs ?_)) rfl ?_
   | refine W.load rfl ld22.h rfl (behind_el rfl (zVers ?_)) rfl ?_)
  | (with_reducible refine K_ld 23 ?_); (first
   | refine W.load rfl ld23.h rfl (behind_el rfl (zLnks ?_)) rfl ?_
   | refine W.load rfl ld23.h rfl (behind_el rfl (zSrvs ?_)) rfl ?_
   | refine W.load rfl ld23.h rfl (behind_el rfl (zVers ?_)) rfl ?_)
  | (with_reducible refine K_ld 25 ?_); (first
   | refine W.loadA (cs2 := [_, _]) rfl ld25.h rfl (behind_el rfl (zLnks ?_)) rfl ?_
   | refine W.loadA (cs2 := [_, _]) rfl ld25.h rfl (behind_el rfl (zSrvs ?_)) rfl ?_)
  | (with_reducible refine K_ld 30 ?_); (first
   | refine W.load rfl ld30.h rfl (behind_el rfl (zInts ?_)) rfl ?_
   | refine W.load rfl ld30.h rfl (behind_el rfl (zTabs ?_)) rfl ?_
   | refine W.load rfl ld30.h rfl (behind_el rfl (zBools ?_)) rfl ?_
   | refine W.load rfl ld30.h rfl (behind_el rfl (zMat ?_)) rfl ?_)
  | (with_reducible refine K_ld 31 ?_); (first
   | refine W.load rfl ld31.h rfl (behind_el rfl (zInts ?_)) rfl ?_
   | refine W.load rfl ld31.h rfl (behind_el rfl (zTabs ?_)) rfl ?_)
  | (with_reducible refine K_ld 33 ?_); (first
   | refine W.loadA (cs2 := [_, _, _, _]) rfl ld33.h rfl (behind_el rfl (zInts ?_)) rfl ?_
   | refine W.loadA (cs2 := [_, _, _, _]) rfl ld33.h rfl (behind_el rfl (zTabs ?_)) rfl ?_)
  | (with_reducible refine K_ld 39 ?_); (first
   | refine W.load rfl ld39.h rfl (behind_el rfl (zBools ?_)) rfl ?_
   | refine W.load rfl ld39.h rfl (behind_el rfl (zInts ?_)) rfl ?_
   | refine W.load rfl ld39.h rfl (behind_el rfl (zMat ?_)) rfl ?_)
  | (with_reducible refine K_ld 40 ?_); (first
   | refine W.load rfl ld40.h rfl (behind_el rfl (zBools ?_)) rfl ?_
   | refine W.load rfl ld40.h rfl (behind_el rfl (zInts ?_)) rfl ?_
   | refine W.load rfl ld40.h rfl (behind_el rfl (zMat ?_)) rfl ?_)
  | (with_reducible refine K_ld 42 ?_); (first
   | refine W.loadA (cs2 := [_, _, _, _, _, _]) rfl ld42.h rfl (behind_el rfl (zInts ?_)) rfl ?_
   | refine W.loadA (cs2 := [_, _, _, _, _, _]) rfl ld42.h rfl (behind_el rfl (zTabs ?_)) rfl ?_)
  | (with_reducible refine K_ld 44 ?_); (first
   | refine W.load rfl ld44.h rfl (behind_el rfl (zLnks ?_)) rfl ?_
   | refine W.load rfl ld44.h rfl (behind_el rfl (zSrvs ?_)) rfl ?_
   | refine W.load rfl ld44.h rfl (behind_el rfl (zVers ?_)) rfl ?_)
  | (with_reducible refine K_ld 46 ?_); (first
   | refine W.loadA (cs2 := [_, _, _, _]) rfl ld46.h rfl (behind_el rfl (zLnks ?_)) rfl ?_
   | refine W.loadA (cs2 := [_, _, _, _]) rfl ld46.h rfl (behind_el rfl (zSrvs ?_)) rfl ?_)
  | (with_reducible refine K_ld 48 ?_); (first
   | refine W.load rfl ld48.h rfl (behind_el rfl (zMems ?_)) rfl ?_
   | refine W.load rfl ld48.h rfl (behind_el rfl (zSyms ?_)) rfl ?_
   | refine W.load rfl ld48.h rfl (behind_el rfl (zTyps ?_)) rfl ?_
   | refine W.load rfl ld48.h rfl (behind_el rfl (zInts ?_)) rfl ?_
   | refine W.load rfl ld48.h rfl (behind_el rfl (zEdges ?_)) rfl ?_
   | refine W.load rfl ld48.h rfl (behind_el rfl (zMsgs ?_)) rfl ?_
   | refine W.load rfl ld48.h rfl (behind_el rfl (zRaws ?_)) rfl ?_
   | refine W.load rfl ld48.h rfl (behind_el rfl (zVals ?_)) rfl ?_)
  | (with_reducible refine K_ld 50 ?_); (first
   | refine W.loadA (cs2 := [_]) rfl ld50.h rfl (behind_el rfl (zCalls ?_)) rfl ?_
   | refine W.loadA (cs2 := [_]) rfl ld50.h rfl (behind_el rfl (zSess ?_)) rfl ?_
   | refine W.loadA (cs2 := [_]) rfl ld50.h rfl (behind_el rfl (zTops ?_)) rfl ?_
   | refine W.loadA (cs2 := [_]) rfl ld50.h rfl (behind_el rfl (zBools ?_)) rfl ?_
   | refine W.loadA (cs2 := [_]) rfl ld50.h rfl (behind_el rfl (zInts ?_)) rfl ?_
   | refine W.loadA (cs2 := [_]) rfl ld50.h rfl (behind_el rfl (zMems ?_)) rfl ?_
   | refine W.loadA (cs2 := [_]) rfl ld50.h rfl (behind_el rfl (zTyps ?_)) rfl ?_
   | refine W.loadA (cs2 := [_]) rfl ld50.h rfl (behind_el rfl (zRaws ?_)) rfl ?_
   | refine W.loadA (cs2 := [_]) rfl ld50.h rfl (behind_el rfl (zVals ?_)) rfl ?_)
  | (with_reducible refine K_ld 51 ?_); (first
   | refine W.load rfl ld51.h rfl (behind_el rfl (zCalls ?_)) rfl ?_
   | refine W.load rfl ld51.h rfl (behind_el rfl (zSess ?_)) rfl ?_
   | refine W.load rfl ld51.h rfl (behind_el rfl (zTops ?_)) rfl ?_)
  | (with_reducible refine K_ld 52 ?_); (first
   | refine W.load rfl ld52.h rfl (behind_el rfl (zCalls ?_)) rfl ?_
   | refine W.load rfl ld52.h rfl (behind_el rfl (zSess ?_)) rfl ?_
   | refine W.load rfl ld52.h rfl (behind_el rfl (zTops ?_)) rfl ?_)
  | (with_reducible refine K_ld 53 ?_); (first
   | refine W.load rfl ld53.h rfl (behind_el rfl (zCalls ?_)) rfl ?_
   | refine W.load rfl ld53.h rfl (behind_el rfl (zSess ?_)) rfl ?_
   | refine W.load rfl ld53.h rfl (behind_el rfl (zTops ?_)) rfl ?_)
  | (with_reducible refine K_ld 55 ?_); (first
   | refine W.loadA (cs2 := [_, _, _, _, _]) rfl ld55.h rfl (behind_el rfl (zLnks ?_)) rfl ?_
   | refine W.loadA (cs2 := [_, _, _, _, _]) rfl ld55.h rfl (behind_el rfl (zSrvs ?_)) rfl ?_
   | refine W.loadA (cs2 := [_, _, _, _, _]) rfl ld55.h rfl (behind_el rfl (zVers ?_)) rfl ?_
   | refine W.loadA (cs2 := [_, _, _, _, _]) rfl ld55.h rfl (behind_el rfl (zBools ?_)) rfl ?_
   | refine W.loadA (cs2 := [_, _, _, _, _]) rfl ld55.h rfl (behind_el rfl (zMat ?_)) rfl ?_
   | refine W.loadA (cs2 := [_, _, _, _, _]) rfl ld55.h rfl (behind_el rfl (zCalls ?_)) rfl ?_
   | refine W.loadA (cs2 := [_, _, _, _, _]) rfl ld55.h rfl (behind_el rfl (zSess ?_)) rfl ?_
   | refine W.loadA (cs2 := [_, _, _, _, _]) rfl ld55.h rfl (behind_el rfl (zTops ?_)) rfl ?_
   | refine W.loadA (cs2 := [_, _, _, _, _]) rfl ld55.h rfl (behind_el rfl (zInts ?_)) rfl ?_)
  | (with_reducible refine K_ld 60 ?_); (first
   | refine W.loadA (cs2 := [_, _, _, _, _, _]) rfl ld60.h rfl (behind_el rfl (zLnks ?_)) rfl ?_
   | refine W.loadA (cs2 := [_, _, _, _, _, _]) rfl ld60.h rfl (behind_el rfl (zSrvs ?_)) rfl ?_
   | refine W.loadA (cs2 := [_, _, _, _, _, _]) rfl ld60.h rfl (behind_el rfl (zBools ?_)) rfl ?_
   | refine W.loadA (cs2 := [_, _, _, _, _, _]) rfl ld60.h rfl (behind_el rfl (zMat ?_)) rfl ?_
   | refine W.loadA (cs2 := [_, _, _, _, _, _]) rfl ld60.h rfl (behind_el rfl (zVers ?_)) rfl ?_)
  | (with_reducible refine K_ld 70 ?_); (first
   | refine W.load rfl ld70.h rfl (behind_el rfl (zMems ?_)) rfl ?_
   | refine W.load rfl ld70.h rfl (behind_el rfl (zSyms ?_)) rfl ?_
   | refine W.load rfl ld70.h rfl (behind_el rfl (zTyps ?_)) rfl ?_
   | refine W.load rfl ld70.h rfl (behind_el rfl (zInts ?_)) rfl ?_)
  | (with_reducible refine K_ld 71 ?_); (first
   | refine W.load rfl ld71.h rfl (behind_el rfl (zMems ?_)) rfl ?_
   | refine W.load rfl ld71.h rfl (behind_el rfl (zSyms ?_)) rfl ?_
   | refine W.load rfl ld71.h rfl (behind_el rfl (zTyps ?_)) rfl ?_
   | refine W.load rfl ld71.h rfl (behind_el rfl (zInts ?_)) rfl ?_
   | refine W.load rfl ld71.h rfl (behind_el rfl (zStrs ?_)) rfl ?_
   | refine W.load rfl ld71.h rfl (behind_el rfl (zRaws ?_)) rfl ?_
   | refine W.load rfl ld71.h rfl (behind_el rfl (zVals ?_)) rfl ?_)
  | (with_reducible refine K_ld 73 ?_); (first
   | refine W.loadA (cs2 := [_, _, _, _, _, _, _, _, _, _]) rfl ld73.h rfl (behind_el rfl (zMems ?_)) rfl ?_
   | refine W.loadA (cs2 := [_, _, _, _, _, _, _, _, _, _]) rfl ld73.h rfl (behind_el rfl (zSyms ?_)) rfl ?_
   | refine W.loadA (cs2 := [_, _, _, _, _, _, _, _, _, _]) rfl ld73.h rfl (behind_el rfl (zTyps ?_)) rfl ?_
   | refine W.loadA (cs2 := [_, _, _, _, _, _, _, _, _, _]) rfl ld73.h rfl (behind_el rfl (zInts ?_)) rfl ?_
   | refine W.loadA (cs2 := [_, _, _, _, _, _, _, _, _, _]) rfl ld73.h rfl (behind_el rfl (zRaws ?_)) rfl ?_
   | refine W.loadA (cs2 := [_, _, _, _, _, _, _, _, _, _]) rfl ld73.h rfl (behind_el rfl (zVals ?_)) rfl ?_)
  | (with_reducible refine K_ld 75 ?_); (first
   | refine W.loadA (cs2 := [_, _]) rfl ld75.h rfl (behind_el rfl (zCalls ?_)) rfl ?_
   | refine W.loadA (cs2 := [_, _]) rfl ld75.h rfl (behind_el rfl (zSess ?_)) rfl ?_
   | refine W.loadA (cs2 := [_, _]) rfl ld75.h rfl (behind_el rfl (zTops ?_)) rfl ?_)
  | (with_reducible refine K_ld 89 ?_); (first
   | refine W.load rfl ld89.h rfl (behind_el rfl (zEdges ?_)) rfl ?_
   | refine W.load rfl ld89.h rfl (behind_el rfl (zMsgs ?_)) rfl ?_
   | refine W.load rfl ld89.h rfl (behind_el rfl (zTyps ?_)) rfl ?_)
  | (with_reducible refine K_ld 90 ?_); (first
   | refine W.load rfl ld90.h rfl (behind_el rfl (zEdges ?_)) rfl ?_
   | refine W.load rfl ld90.h rfl (behind_el rfl (zMsgs ?_)) rfl ?_
   | refine W.load rfl ld90.h rfl (behind_el rfl (zTyps ?_)) rfl ?_
   | refine W.load rfl ld90.h rfl (behind_el rfl (zInts ?_)) rfl ?_)
  | (with_reducible refine K_ld 92 ?_); (first
   | refine W.loadA (cs2 := [_, _, _]) rfl ld92.h rfl (behind_el rfl (zEdges ?_)) rfl ?_
   | refine W.loadA (cs2 := [_, _, _]) rfl ld92.h rfl (behind_el rfl (zMsgs ?_)) rfl ?_
   | refine W.loadA (cs2 := [_, _, _]) rfl ld92.h rfl (behind_el rfl (zTyps ?_)) rfl ?_
   | refine W.loadA (cs2 := [_, _, _]) rfl ld92.h rfl (behind_el rfl (zInts ?_)) rfl ?_)
  | (with_reducible refine K_ld 94 ?_); (first
   | refine W.loadA (cs2 := [_, _, _, _, _]) rfl ld94.h rfl (behind_el rfl (zCalls ?_)) rfl ?_
   | refine W.loadA (cs2 := [_, _, _, _, _]) rfl ld94.h rfl (behind_el rfl (zSess ?_)) rfl ?_
   | refine W.loadA (cs2 := [_, _, _, _, _]) rfl ld94.h rfl (behind_el rfl (zTops ?_)) rfl ?_
   | refine W.loadA (cs2 := [_, _, _, _, _]) rfl ld94.h rfl (behind_el rfl (zInts ?_)) rfl ?_
   | refine W.loadA (cs2 := [_, _, _, _, _]) rfl ld94.h rfl (behind_el rfl (zEdges ?_)) rfl ?_
   | refine W.loadA (cs2 := [_, _, _, _, _]) rfl ld94.h rfl (behind_el rfl (zMsgs ?_)) rfl ?_
   | refine W.loadA (cs2 := [_, _, _, _, _]) rfl ld94.h rfl (behind_el rfl (zTyps ?_)) rfl ?_)
  | (with_reducible refine K_ld 115 ?_); (first
   | refine W.load rfl ld115.h rfl (behind_el rfl (zRaws ?_)) rfl ?_
   | refine W.load rfl ld115.h rfl (behind_el rfl (zVals ?_)) rfl ?_
   | refine W.load rfl ld115.h rfl (behind_el rfl (zMems ?_)) rfl ?_
   | refine W.load rfl ld115.h rfl (behind_el rfl (zTyps ?_)) rfl ?_)
  | (with_reducible refine K_ld 116 ?_); (first
   | refine W.load rfl ld116.h rfl (behind_el rfl (zRaws ?_)) rfl ?_
   | refine W.load rfl ld116.h rfl (behind_el rfl (zVals ?_)) rfl ?_
   | refine W.load rfl ld116.h rfl (behind_el rfl (zMems ?_)) rfl ?_
   | refine W.load rfl ld116.h rfl (behind_el rfl (zTyps ?_)) rfl ?_)
  | (with_reducible refine K_ld 118 ?_); (first
   | refine W.loadA (cs2 := [_, _, _, _, _, _, _, _]) rfl ld118.h rfl (behind_el rfl (zMems ?_)) rfl ?_
   | refine W.loadA (cs2 := [_, _, _, _, _, _, _, _]) rfl ld118.h rfl (behind_el rfl (zSyms ?_)) rfl ?_
   | refine W.loadA (cs2 := [_, _, _, _, _, _, _, _]) rfl ld118.h rfl (behind_el rfl (zTyps ?_)) rfl ?_
   | refine W.loadA (cs2 := [_, _, _, _, _, _, _, _]) rfl ld118.h rfl (behind_el rfl (zRaws ?_)) rfl ?_
   | refine W.loadA (cs2 := [_, _, _, _, _, _, _, _]) rfl ld118.h rfl (behind_el rfl (zVals ?_)) rfl ?_
   | refine W.loadA (cs2 := [_, _, _, _, _, _, _, _]) rfl ld118.h rfl (behind_el rfl (zInts ?_)) rfl ?_
   | refine W.loadA (cs2 := [_, _, _, _, _, _, _, _]) rfl ld118.h rfl (behind_el rfl (zStrs ?_)) rfl ?_)
  | (with_reducible refine K_ld 120 ?_); (first
   | refine W.loadA (cs2 := [_, _, _, _, _, _, _, _, _, _, _, _, _]) rfl ld120.h rfl (behind_el rfl (zInts ?_)) rfl ?_
   | refine W.loadA (cs2 := [_, _, _, _, _, _, _, _, _, _, _, _, _]) rfl ld120.h rfl (behind_el rfl (zMems ?_)) rfl ?_
   | refine W.loadA (cs2 := [_, _, _, _, _, _, _, _, _, _, _, _, _]) rfl ld120.h rfl (behind_el rfl (zTyps ?_)) rfl ?_
   | refine W.loadA (cs2 := [_, _, _, _, _, _, _, _, _, _, _, _, _]) rfl ld120.h rfl (behind_el rfl (zSyms ?_)) rfl ?_
   | refine W.loadA (cs2 := [_, _, _, _, _, _, _, _, _, _, _, _, _]) rfl ld120.h rfl (behind_el rfl (zStrs ?_)) rfl ?_
   | refine W.loadA (cs2 := [_, _, _, _, _, _, _, _, _, _, _, _, _]) rfl ld120.h rfl (behind_el rfl (zRaws ?_)) rfl ?_
   | refine W.loadA (cs2 := [_, _, _, _, _, _, _, _, _, _, _, _, _]) rfl ld120.h rfl (behind_el rfl (zVals ?_)) rfl ?_)
  | (with_reducible refine K_ld 123 ?_); refine W.load rfl ld123.h rfl (behind_el rfl (zStrs ?_)) rfl ?_
  | (with_reducible refine K_ld 127 ?_); (first
   | refine W.loadA (cs2 := [_, _, _]) rfl ld127.h rfl (behind_el rfl (zCalls ?_)) rfl ?_
   | refine W.loadA (cs2 := [_, _, _]) rfl ld127.h rfl (behind_el rfl (zSess ?_)) rfl ?_
   | refine W.loadA (cs2 := [_, _, _]) rfl ld127.h rfl (behind_el rfl (zTops ?_)) rfl ?_)
  | (with_reducible refine K_ld 142 ?_); (first
   | refine W.loadA (cs2 := [_, _]) rfl ld142.h rfl (behind_el rfl (zRaws ?_)) rfl ?_
   | refine W.loadA (cs2 := [_, _]) rfl ld142.h rfl (behind_el rfl (zMems ?_)) rfl ?_
   | refine W.loadA (cs2 := [_, _]) rfl ld142.h rfl (behind_el rfl (zTyps ?_)) rfl ?_
   | refine W.loadA (cs2 := [_, _]) rfl ld142.h rfl (behind_el rfl (zVals ?_)) rfl ?_)
  | (with_reducible refine K_ld 160 ?_); refine W.loadA (cs2 := [_, _, _, _, _, _, _]) rfl ld160.h rfl (behind_el rfl (zInts ?_)) rfl ?_
  | (with_reducible refine K_ld 162 ?_); refine W.loadA (cs2 := [_, _, _, _, _, _, _, _, _, _, _, _, _, _, _, _, _, _, _, _, _, _, _, _, _, _, _]) rfl ld162.h rfl (behind_el rfl (zInts ?_)) rfl ?_
  | (with_reducible refine K_ld 189 ?_); (first
   | refine W.loadA (cs2 := [_, _, _]) rfl ld189.h rfl (behind_el rfl (zEdges ?_)) rfl ?_
   | refine W.loadA (cs2 := [_, _, _]) rfl ld189.h rfl (behind_el rfl (zMsgs ?_)) rfl ?_
   | refine W.loadA (cs2 := [_, _, _]) rfl ld189.h rfl (behind_el rfl (zTyps ?_)) rfl ?_)
  | (with_reducible refine K_ld 193 ?_); (first
   | refine W.loadA (cs2 := [_, _, _, _]) rfl ld193.h rfl (behind_el rfl (zEdges ?_)) rfl ?_
   | refine W.loadA (cs2 := [_, _, _, _]) rfl ld193.h rfl (behind_el rfl (zMsgs ?_)) rfl ?_
   | refine W.loadA (cs2 := [_, _, _, _]) rfl ld193.h rfl (behind_el rfl (zTyps ?_)) rfl ?_
   | refine W.loadA (cs2 := [_, _, _, _]) rfl ld193.h rfl (behind_el rfl (zInts ?_)) rfl ?_)
  | (with_reducible refine K_ld 296 ?_); (first
   | refine W.loadA (cs2 := [_, _]) rfl ld296.h rfl (behind_el rfl (zInts ?_)) rfl ?_
   | refine W.loadA (cs2 := [_, _]) rfl ld296.h rfl (behind_el rfl (zStrs ?_)) rfl ?_
   | refine W.loadA (cs2 := [_, _]) rfl ld296.h rfl (behind_el rfl (zSyms ?_)) rfl ?_
   | refine W.loadA (cs2 := [_, _]) rfl ld296.h rfl (behind_el rfl (zMems ?_)) rfl ?_))
 exact q
 exact r) : P := h q r
theorem x2st {P Q R : Prop} (q : Q) (r : R) (h : Q → R → P := by
 intro q r
 (first
  | (with_reducible refine K_st 2 ?_); (first
   | refine W.storeE sz2.h rfl rfl rfl (zMems ?_) rfl (And.intro rfl (Nat.le_of_ble_eq_true rfl)) wMems ?_
   | refine W.storeE sz2.h rfl rfl rfl (zSyms ?_) rfl (And.intro rfl (Nat.le_of_ble_eq_true rfl)) wSyms ?_
   | refine W.storeE sz2.h rfl rfl rfl (zRaws ?_) rfl (And.intro rfl (Nat.le_of_ble_eq_true rfl)) wRaws ?_
   | refine W.storeE sz2.h rfl rfl rfl (zVals ?_) rfl (And.intro rfl (Nat.le_of_ble_eq_true rfl)) wVals ?_)
  | (with_reducible refine K_st 3 ?_); (first
   | refine W.storeE sz3.h rfl rfl rfl (zInts ?_) rfl (And.intro rfl (Nat.le_of_ble_eq_true rfl)) wInts ?_
   | refine W.storeE sz3.h rfl rfl rfl (zTyps ?_) rfl (And.intro rfl (Nat.le_of_ble_eq_true rfl)) wTyps ?_
   | refine W.storeE sz3.h rfl rfl rfl (zMems ?_) rfl (And.intro rfl (Nat.le_of_ble_eq_true rfl)) wMems ?_
   | refine W.storeE sz3.h rfl rfl rfl (zSyms ?_) rfl (And.intro rfl (Nat.le_of_ble_eq_true rfl)) wSyms ?_
   | refine W.storeE sz3.h rfl rfl rfl (zEdges ?_) rfl (And.intro rfl (Nat.le_of_ble_eq_true rfl)) wEdges ?_
   | refine W.storeE sz3.h rfl rfl rfl (zRaws ?_) rfl (And.intro rfl (Nat.le_of_ble_eq_true rfl)) wRaws ?_
   | refine W.storeE sz3.h rfl rfl rfl (zVals ?_) rfl (And.intro rfl (Nat.le_of_ble_eq_true rfl)) wVals ?_)
  | (with_reducible refine K_st 4 ?_); (first
   | refine W.storeE sz4.h rfl rfl rfl (zMems ?_) rfl (And.intro rfl (Nat.le_of_ble_eq_true rfl)) wMems ?_
   | refine W.storeE sz4.h rfl rfl rfl (zSyms ?_) rfl (And.intro rfl (Nat.le_of_ble_eq_true rfl)) wSyms ?_
   | refine W.storeE sz4.h rfl rfl rfl (zRaws ?_) rfl (And.intro rfl (Nat.le_of_ble_eq_true rfl)) wRaws ?_
   | refine W.storeE sz4.h rfl rfl rfl (zVals ?_) rfl (And.intro rfl (Nat.le_of_ble_eq_true rfl)) wVals ?_)
  | (with_reducible refine K_st 9 ?_); (first
   | refine W.storeE sz9.h rfl rfl rfl (zMems ?_) rfl (And.intro rfl (Nat.le_of_ble_eq_true rfl)) wMems ?_
   | refine W.storeE sz9.h rfl rfl rfl (zSyms ?_) rfl (And.intro rfl (Nat.le_of_ble_eq_true rfl)) wSyms ?_
   | refine W.storeE sz9.h rfl rfl rfl (zRaws ?_) rfl (And.intro rfl (Nat.le_of_ble_eq_true rfl)) wRaws ?_
   | refine W.storeE sz9.h rfl rfl rfl (zVals ?_) rfl (And.intro rfl (Nat.le_of_ble_eq_true rfl)) wVals ?_)
  | (with_reducible refine K_st 42 ?_); (first
   | refine W.storeE sz42.h rfl rfl rfl (zInts ?_) rfl (And.intro rfl (Nat.le_of_ble_eq_true rfl)) wInts ?_
   | refine W.storeE sz42.h rfl rfl rfl (zTabs ?_) rfl (And.intro rfl (Nat.le_of_ble_eq_true rfl)) wTabs ?_)
  | (with_reducible refine K_st 46 ?_); (first
   | refine W.storeE sz46.h rfl rfl rfl (zLnks ?_) rfl (And.intro rfl (Nat.le_of_ble_eq_true rfl)) wLnks ?_
   | refine W.storeE sz46.h rfl rfl rfl (zSrvs ?_) rfl (And.intro rfl (Nat.le_of_ble_eq_true rfl)) wSrvs ?_)
  | (with_reducible refine K_st 55 ?_); (first
   | refine W.storeE sz55.h rfl rfl rfl (zVers ?_) rfl (And.intro rfl (Nat.le_of_ble_eq_true rfl)) wVers ?_
   | refine W.storeE sz55.h rfl rfl rfl (zBools ?_) rfl (And.intro rfl (Nat.le_of_ble_eq_true rfl)) wBools ?_
   | refine W.storeE sz55.h rfl rfl rfl (zMat ?_) rfl (And.intro rfl (Nat.le_of_ble_eq_true rfl)) wMat ?_)
  | (with_reducible refine K_st 60 ?_); (first
   | refine W.storeE sz60.h rfl rfl rfl (zLnks ?_) rfl (And.intro rfl (Nat.le_of_ble_eq_true rfl)) wLnks ?_
   | refine W.storeE sz60.h rfl rfl rfl (zSrvs ?_) rfl (And.intro rfl (Nat.le_of_ble_eq_true rfl)) wSrvs ?_)
  | (with_reducible refine K_st 70 ?_); (first
   | refine W.storeE sz70.h rfl rfl rfl (zMems ?_) rfl (And.intro rfl (Nat.le_of_ble_eq_true rfl)) wMems ?_
   | refine W.storeE sz70.h rfl rfl rfl (zSyms ?_) rfl (And.intro rfl (Nat.le_of_ble_eq_true rfl)) wSyms ?_)
  | (with_reducible refine K_st 71 ?_); (first
   | refine W.storeE sz71.h rfl rfl rfl (zMems ?_) rfl (And.intro rfl (Nat.le_of_ble_eq_true rfl)) wMems ?_
   | refine W.storeE sz71.h rfl rfl rfl (zSyms ?_) rfl (And.intro rfl (Nat.le_of_ble_eq_true rfl)) wSyms ?_)
  | (with_reducible refine K_st 73 ?_); (first
   | refine W.storeE sz73.h rfl rfl rfl (zMems ?_) rfl (And.intro rfl (Nat.le_of_ble_eq_true rfl)) wMems ?_
   | refine W.storeE sz73.h rfl rfl rfl (zSyms ?_) rfl (And.intro rfl (Nat.le_of_ble_eq_true rfl)) wSyms ?_
   | refine W.storeE sz73.h rfl rfl rfl (zTyps ?_) rfl (And.intro rfl (Nat.le_of_ble_eq_true rfl)) wTyps ?_
   | refine W.storeE sz73.h rfl rfl rfl (zInts ?_) rfl (And.intro rfl (Nat.le_of_ble_eq_true rfl)) wInts ?_
   | refine W.storeE sz73.h rfl rfl rfl (zRaws ?_) rfl (And.intro rfl (Nat.le_of_ble_eq_true rfl)) wRaws ?_
   | refine W.storeE sz73.h rfl rfl rfl (zVals ?_) rfl (And.intro rfl (Nat.le_of_ble_eq_true rfl)) wVals ?_)
  | (with_reducible refine K_st 75 ?_); (first
   | refine W.storeE sz75.h rfl rfl rfl (zCalls ?_) rfl (And.intro rfl (Nat.le_of_ble_eq_true rfl)) wCalls ?_
   | refine W.storeE sz75.h rfl rfl rfl (zSess ?_) rfl (And.intro rfl (Nat.le_of_ble_eq_true rfl)) wSess ?_
   | refine W.storeE sz75.h rfl rfl rfl (zTops ?_) rfl (And.intro rfl (Nat.le_of_ble_eq_true rfl)) wTops ?_)
  | (with_reducible refine K_st 90 ?_); (first
   | refine W.storeE sz90.h rfl rfl rfl (zEdges ?_) rfl (And.intro rfl (Nat.le_of_ble_eq_true rfl)) wEdges ?_
   | refine W.storeE sz90.h rfl rfl rfl (zInts ?_) rfl (And.intro rfl (Nat.le_of_ble_eq_true rfl)) wInts ?_)
  | (with_reducible refine K_st 92 ?_); (first
   | refine W.storeE sz92.h rfl rfl rfl (zEdges ?_) rfl (And.intro rfl (Nat.le_of_ble_eq_true rfl)) wEdges ?_
   | refine W.storeE sz92.h rfl rfl rfl (zMsgs ?_) rfl (And.intro rfl (Nat.le_of_ble_eq_true rfl)) wMsgs ?_
   | refine W.storeE sz92.h rfl rfl rfl (zTyps ?_) rfl (And.intro rfl (Nat.le_of_ble_eq_true rfl)) wTyps ?_
   | refine W.storeE sz92.h rfl rfl rfl (zInts ?_) rfl (And.intro rfl (Nat.le_of_ble_eq_true rfl)) wInts ?_)
  | (with_reducible refine K_st 94 ?_); (first
   | refine W.storeE sz94.h rfl rfl rfl (zCalls ?_) rfl (And.intro rfl (Nat.le_of_ble_eq_true rfl)) wCalls ?_
   | refine W.storeE sz94.h rfl rfl rfl (zSess ?_) rfl (And.intro rfl (Nat.le_of_ble_eq_true rfl)) wSess ?_
   | refine W.storeE sz94.h rfl rfl rfl (zTops ?_) rfl (And.intro rfl (Nat.le_of_ble_eq_true rfl)) wTops ?_
   | refine W.storeE sz94.h rfl rfl rfl (zInts ?_) rfl (And.intro rfl (Nat.le_of_ble_eq_true rfl)) wInts ?_)
  | (with_reducible refine K_st 101 ?_); (first
   | refine W.storeE sz101.h rfl rfl rfl (zBools ?_) rfl (And.intro rfl (Nat.le_of_ble_eq_true rfl)) wBools ?_
   | refine W.storeE sz101.h rfl rfl rfl (zMat ?_) rfl (And.intro rfl (Nat.le_of_ble_eq_true rfl)) wMat ?_
   | refine W.storeE sz101.h rfl rfl rfl (zVers ?_) rfl (And.intro rfl (Nat.le_of_ble_eq_true rfl)) wVers ?_
   | refine W.storeE sz101.h rfl rfl rfl (zInts ?_) rfl (And.intro rfl (Nat.le_of_ble_eq_true rfl)) wInts ?_)
  | (with_reducible refine K_st 115 ?_); (first
   | refine W.storeE sz115.h rfl rfl rfl (zRaws ?_) rfl (And.intro rfl (Nat.le_of_ble_eq_true rfl)) wRaws ?_
   | refine W.storeE sz115.h rfl rfl rfl (zVals ?_) rfl (And.intro rfl (Nat.le_of_ble_eq_true rfl)) wVals ?_)
  | (with_reducible refine K_st 116 ?_); (first
   | refine W.storeE sz116.h rfl rfl rfl (zRaws ?_) rfl (And.intro rfl (Nat.le_of_ble_eq_true rfl)) wRaws ?_
   | refine W.storeE sz116.h rfl rfl rfl (zVals ?_) rfl (And.intro rfl (Nat.le_of_ble_eq_true rfl)) wVals ?_)
  | (with_reducible refine K_st 118 ?_); (first
   | refine W.storeE sz118.h rfl rfl rfl (zVals ?_) rfl (And.intro rfl (Nat.le_of_ble_eq_true rfl)) wVals ?_
   | refine W.storeE sz118.h rfl rfl rfl (zRaws ?_) rfl (And.intro rfl (Nat.le_of_ble_eq_true rfl)) wRaws ?_)
  | (with_reducible refine K_st 120 ?_); (first
   | refine W.storeE sz120.h rfl rfl rfl (zInts ?_) rfl (And.intro rfl (Nat.le_of_ble_eq_true rfl)) wInts ?_
   | refine W.storeE sz120.h rfl rfl rfl (zMems ?_) rfl (And.intro rfl (Nat.le_of_ble_eq_true rfl)) wMems ?_
   | refine W.storeE sz120.h rfl rfl rfl (zTyps ?_) rfl (And.intro rfl (Nat.le_of_ble_eq_true rfl)) wTyps ?_
   | refine W.storeE sz120.h rfl rfl rfl (zSyms ?_) rfl (And.intro rfl (Nat.le_of_ble_eq_true rfl)) wSyms ?_
   | refine W.storeE sz120.h rfl rfl rfl (zStrs ?_) rfl (And.intro rfl (Nat.le_of_ble_eq_true rfl)) wStrs ?_
   | refine W.storeE sz120.h rfl rfl rfl (zRaws ?_) rfl (And.intro rfl (Nat.le_of_ble_eq_true rfl)) wRaws ?_
   | refine W.storeE sz120.h rfl rfl rfl (zVals ?_) rfl (And.intro rfl (Nat.le_of_ble_eq_true rfl)) wVals ?_)
  | (with_reducible refine K_st 123 ?_); refine W.storeE sz123.h rfl rfl rfl (zStrs ?_) rfl (And.intro rfl (Nat.le_of_ble_eq_true rfl)) wStrs ?_
  | (with_reducible refine K_st 125 ?_); (first
   | refine W.storeE sz125.h rfl rfl rfl (zCalls ?_) rfl (And.intro rfl (Nat.le_of_ble_eq_true rfl)) wCalls ?_
   | refine W.storeE sz125.h rfl rfl rfl (zSess ?_) rfl (And.intro rfl (Nat.le_of_ble_eq_true rfl)) wSess ?_
   | refine W.storeE sz125.h rfl rfl rfl (zTops ?_) rfl (And.intro rfl (Nat.le_of_ble_eq_true rfl)) wTops ?_)
  | (with_reducible refine K_st 127 ?_); (first
   | refine W.storeE sz127.h rfl rfl rfl (zCalls ?_) rfl (And.intro rfl (Nat.le_of_ble_eq_true rfl)) wCalls ?_
   | refine W.storeE sz127.h rfl rfl rfl (zSess ?_) rfl (And.intro rfl (Nat.le_of_ble_eq_true rfl)) wSess ?_
   | refine W.storeE sz127.h rfl rfl rfl (zTops ?_) rfl (And.intro rfl (Nat.le_of_ble_eq_true rfl)) wTops ?_)
  | (with_reducible refine K_st 142 ?_); (first
   | refine W.storeE sz142.h rfl rfl rfl (zMems ?_) rfl (And.intro rfl (Nat.le_of_ble_eq_true rfl)) wMems ?_
   | refine W.storeE sz142.h rfl rfl rfl (zRaws ?_) rfl (And.intro rfl (Nat.le_of_ble_eq_true rfl)) wRaws ?_
   | refine W.storeE sz142.h rfl rfl rfl (zTyps ?_) rfl (And.intro rfl (Nat.le_of_ble_eq_true rfl)) wTyps ?_
   | refine W.storeE sz142.h rfl rfl rfl (zVals ?_) rfl (And.intro rfl (Nat.le_of_ble_eq_true rfl)) wVals ?_)
  | (with_reducible refine K_st 162 ?_); refine W.storeE sz162.h rfl rfl rfl (zInts ?_) rfl (And.intro rfl (Nat.le_of_ble_eq_true rfl)) wInts ?_
  | (with_reducible refine K_st 168 ?_); refine W.storeE sz168.h rfl rfl rfl (zInts ?_) rfl (And.intro rfl (Nat.le_of_ble_eq_true rfl)) wInts ?_
  | (with_reducible refine K_st 173 ?_); refine W.storeE sz173.h rfl rfl rfl (zInts ?_) rfl (And.intro rfl (Nat.le_of_ble_eq_true rfl)) wInts ?_
  | (with_reducible refine K_st 189 ?_); (first
   | refine W.storeE sz189.h rfl rfl rfl (zEdges ?_) rfl (And.intro rfl (Nat.le_of_ble_eq_true rfl)) wEdges ?_
   | refine W.storeE sz189.h rfl rfl rfl (zMsgs ?_) rfl (And.intro rfl (Nat.le_of_ble_eq_true rfl)) wMsgs ?_
   | refine W.storeE sz189.h rfl rfl rfl (zTyps ?_) rfl (And.intro rfl (Nat.le_of_ble_eq_true rfl)) wTyps ?_)
  | (with_reducible refine K_st 193 ?_); (first
   | refine W.storeE sz193.h rfl rfl rfl (zEdges ?_) rfl (And.intro rfl (Nat.le_of_ble_eq_true rfl)) wEdges ?_
   | refine W.storeE sz193.h rfl rfl rfl (zMsgs ?_) rfl (And.intro rfl (Nat.le_of_ble_eq_true rfl)) wMsgs ?_
   | refine W.storeE sz193.h rfl rfl rfl (zTyps ?_) rfl (And.intro rfl (Nat.le_of_ble_eq_true rfl)) wTyps ?_
   | refine W.storeE sz193.h rfl rfl rfl (zInts ?_) rfl (And.intro rfl (Nat.le_of_ble_eq_true rfl)) wInts ?_)
  | (with_reducible refine K_st 296 ?_); (first
   | refine W.storeE sz296.h rfl rfl rfl (zInts ?_) rfl (And.intro rfl (Nat.le_of_ble_eq_true rfl)) wInts ?_
   | refine W.storeE sz296.h rfl rfl rfl (zStrs ?_) rfl (And.intro rfl (Nat.le_of_ble_eq_true rfl)) wStrs ?_
   | refine W.storeE sz296.h rfl rfl rfl (zSyms ?_) rfl (And.intro rfl (Nat.le_of_ble_eq_true rfl)) wSyms ?_))
 exact q
 exact r) : P := h q r
theorem x2ix {P Q R : Prop} (q : Q) (r : R) (h : Q → R → P := by
 intro q r
 (first
  | (with_reducible refine K_ix 22 ?_); (first
   | refine W.idx rfl el22 rfl rfl (gSrvsN ?_) ?_
   | refine W.idx rfl el22 rfl rfl (gSrvs ?_) ?_
   | refine W.idxF rfl el22 rfl rfl rfl (gSrvs ?_) ?_
   | refine W.idxO rfl el22 rfl rfl rfl ?_ ?_)
  | (with_reducible refine K_ix 23 ?_); (first
   | refine W.idx rfl el23 rfl rfl (gLnksN ?_) ?_
   | refine W.idx rfl el23 rfl rfl (gLnks ?_) ?_
   | refine W.idxF rfl el23 rfl rfl rfl (gLnks ?_) ?_
   | refine W.idxO rfl el23 rfl rfl rfl ?_ ?_)
  | (with_reducible refine K_ix 30 ?_); (first
   | refine W.idx rfl el30 rfl rfl (gIntsN ?_) ?_
   | refine W.idx rfl el30 rfl rfl (gInts ?_) ?_
   | refine W.idxF rfl el30 rfl rfl rfl (gInts ?_) ?_
   | refine W.idxO rfl el30 rfl rfl rfl ?_ ?_)
  | (with_reducible refine K_ix 31 ?_); (first
   | refine W.idx rfl el31 rfl rfl (gTabsN ?_) ?_
   | refine W.idx rfl el31 rfl rfl (gTabs ?_) ?_
   | refine W.idxF rfl el31 rfl rfl rfl (gTabs ?_) ?_
   | refine W.idxO rfl el31 rfl rfl rfl ?_ ?_)
  | (with_reducible refine K_ix 39 ?_); (first
   | refine W.idx rfl el39 rfl rfl (gBoolsN ?_) ?_
   | refine W.idx rfl el39 rfl rfl (gBools ?_) ?_
   | refine W.idxF rfl el39 rfl rfl rfl (gBools ?_) ?_
   | refine W.idxO rfl el39 rfl rfl rfl ?_ ?_)
  | (with_reducible refine K_ix 40 ?_); (first
   | refine W.idx rfl el40 rfl rfl (gMatN ?_) ?_
   | refine W.idx rfl el40 rfl rfl (gMat ?_) ?_
   | refine W.idxF rfl el40 rfl rfl rfl (gMat ?_) ?_
   | refine W.idxO rfl el40 rfl rfl rfl ?_ ?_)
  | (with_reducible refine K_ix 44 ?_); (first
   | refine W.idx rfl el44 rfl rfl (gVersN ?_) ?_
   | refine W.idx rfl el44 rfl rfl (gVers ?_) ?_
   | refine W.idxF rfl el44 rfl rfl rfl (gVers ?_) ?_
   | refine W.idxO rfl el44 rfl rfl rfl ?_ ?_)
  | (with_reducible refine K_ix 48 ?_); (first
   | refine W.idx rfl el48 rfl rfl (gTypsN ?_) ?_
   | refine W.idx rfl el48 rfl rfl (gTyps ?_) ?_
   | refine W.idxF rfl el48 rfl rfl rfl (gTyps ?_) ?_
   | refine W.idxO rfl el48 rfl rfl rfl ?_ ?_)
  | (with_reducible refine K_ix 51 ?_); (first
   | refine W.idx rfl el51 rfl rfl (gCallsN ?_) ?_
   | refine W.idx rfl el51 rfl rfl (gCalls ?_) ?_
   | refine W.idxF rfl el51 rfl rfl rfl (gCalls ?_) ?_
   | refine W.idxO rfl el51 rfl rfl rfl ?_ ?_)
  | (with_reducible refine K_ix 52 ?_); (first
   | refine W.idx rfl el52 rfl rfl (gSessN ?_) ?_
   | refine W.idx rfl el52 rfl rfl (gSess ?_) ?_
   | refine W.idxF rfl el52 rfl rfl rfl (gSess ?_) ?_
   | refine W.idxO rfl el52 rfl rfl rfl ?_ ?_)
  | (with_reducible refine K_ix 53 ?_); (first
   | refine W.idx rfl el53 rfl rfl (gTopsN ?_) ?_
   | refine W.idx rfl el53 rfl rfl (gTops ?_) ?_
   | refine W.idxF rfl el53 rfl rfl rfl (gTops ?_) ?_
   | refine W.idxO rfl el53 rfl rfl rfl ?_ ?_)
  | (with_reducible refine K_ix 70 ?_); (first
   | refine W.idx rfl el70 rfl rfl (gSymsN ?_) ?_
   | refine W.idx rfl el70 rfl rfl (gSyms ?_) ?_
   | refine W.idxF rfl el70 rfl rfl rfl (gSyms ?_) ?_
   | refine W.idxO rfl el70 rfl rfl rfl ?_ ?_)
  | (with_reducible refine K_ix 71 ?_); (first
   | refine W.idx rfl el71 rfl rfl (gMemsN ?_) ?_
   | refine W.idx rfl el71 rfl rfl (gMems ?_) ?_
   | refine W.idxF rfl el71 rfl rfl rfl (gMems ?_) ?_
   | refine W.idxO rfl el71 rfl rfl rfl ?_ ?_)
  | (with_reducible refine K_ix 89 ?_); (first
   | refine W.idx rfl el89 rfl rfl (gMsgsN ?_) ?_
   | refine W.idx rfl el89 rfl rfl (gMsgs ?_) ?_
   | refine W.idxF rfl el89 rfl rfl rfl (gMsgs ?_) ?_
   | refine W.idxO rfl el89 rfl rfl rfl ?_ ?_)
  | (with_reducible refine K_ix 90 ?_); (first
   | refine W.idx rfl el90 rfl rfl (gEdgesN ?_) ?_
   | refine W.idx rfl el90 rfl rfl (gEdges ?_) ?_
   | refine W.idxF rfl el90 rfl rfl rfl (gEdges ?_) ?_
   | refine W.idxO rfl el90 rfl rfl rfl ?_ ?_)
  | (with_reducible refine K_ix 115 ?_); (first
   | refine W.idx rfl el115 rfl rfl (gValsN ?_) ?_
   | refine W.idx rfl el115 rfl rfl (gVals ?_) ?_
   | refine W.idxF rfl el115 rfl rfl rfl (gVals ?_) ?_
   | refine W.idxO rfl el115 rfl rfl rfl ?_ ?_)
  | (with_reducible refine K_ix 116 ?_); (first
   | refine W.idx rfl el116 rfl rfl (gRawsN ?_) ?_
   | refine W.idx rfl el116 rfl rfl (gRaws ?_) ?_
   | refine W.idxF rfl el116 rfl rfl rfl (gRaws ?_) ?_
   | refine W.idxO rfl el116 rfl rfl rfl ?_ ?_)
  | (with_reducible refine K_ix 123 ?_); (first
   | refine W.idx rfl el123 rfl rfl (gStrsN ?_) ?_
   | refine W.idx rfl el123 rfl rfl (gStrs ?_) ?_
   | refine W.idxF rfl el123 rfl rfl rfl (gStrs ?_) ?_
   | refine W.idxO rfl el123 rfl rfl rfl ?_ ?_))
 exact q
 exact r) : P := h q r
theorem x2bu {P Q R : Prop} (q : Q) (r : R) (h : Q → R → P := by
 intro q r
 (first
  | (with_reducible refine K_bu .append 30 ?_); (first
   | refine W.appO _ rfl m64 ef30 is30 rfl rfl rfl rfl ?_ sInts ?_
   | refine W.appO _ rfl m64 ef30 is30 rfl rfl rfl rfl ?_ aInts ?_
   | refine W.appO _ rfl m64 ef30 is30 rfl rfl rfl rfl ?_ rfl ?_
   | refine W.appZ _ rfl m64 ef30 is30 rfl rfl rfl ?_ oInts ?_
   | refine W.appZ _ rfl m64 ef30 is30 rfl rfl rfl ?_ rfl ?_)
  | (with_reducible refine K_bu .append 39 ?_); (first
   | refine W.appO _ rfl m64 ef39 is39 rfl rfl rfl rfl ?_ sBools ?_
   | refine W.appO _ rfl m64 ef39 is39 rfl rfl rfl rfl ?_ aBools ?_
   | refine W.appO _ rfl m64 ef39 is39 rfl rfl rfl rfl ?_ rfl ?_
   | refine W.appZ _ rfl m64 ef39 is39 rfl rfl rfl ?_ oBools ?_
   | refine W.appZ _ rfl m64 ef39 is39 rfl rfl rfl ?_ rfl ?_)
  | (with_reducible refine K_bu .append 40 ?_); (first
   | refine W.appO _ rfl m64 ef40 is40 rfl rfl rfl rfl ?_ sMat ?_
   | refine W.appO _ rfl m64 ef40 is40 rfl rfl rfl rfl ?_ aMat ?_
   | refine W.appO _ rfl m64 ef40 is40 rfl rfl rfl rfl ?_ rfl ?_
   | refine W.appZ _ rfl m64 ef40 is40 rfl rfl rfl ?_ oMat ?_
   | refine W.appZ _ rfl m64 ef40 is40 rfl rfl rfl ?_ rfl ?_)
  | (with_reducible refine K_bu .append 90 ?_); (first
   | refine W.appO _ rfl m64 ef90 is90 rfl rfl rfl rfl ?_ sEdgesC ?_
   | refine W.appO _ rfl m64 ef90 is90 rfl rfl rfl rfl ?_ aEdges ?_
   | refine W.appO _ rfl m64 ef90 is90 rfl rfl rfl rfl ?_ rfl ?_
   | refine W.appZ _ rfl m64 ef90 is90 rfl rfl rfl ?_ rfl ?_)
  | (with_reducible refine K_bu .append 123 ?_); (first
   | refine W.appO _ rfl m64 ef123 is123 rfl rfl rfl rfl ?_ sStrs ?_
   | refine W.appO _ rfl m64 ef123 is123 rfl rfl rfl rfl ?_ aStrs ?_
   | refine W.appO _ rfl m64 ef123 is123 rfl rfl rfl rfl ?_ rfl ?_
   | refine W.appZ _ rfl m64 ef123 is123 rfl rfl rfl ?_ oStrs ?_
   | refine W.appZ _ rfl m64 ef123 is123 rfl rfl rfl ?_ rfl ?_))
 exact q
 exact r) : P := h q r
theorem wA {P Q : Prop} (q : Q) (h : Q → P := by
 intro q
 (first
 | (repeat1' ((with_reducible refine W_at ?_); (first
  | ((with_reducible refine K_nl ?_); (first
   | refine W.nil ?_
   | refine W.nilD ?_ ?_; (focus kernel_rfl)))
  | ((with_reducible refine K_mv ?_); refine W.move rfl rfl ?_)
  | ((with_reducible refine K_ld _ ?_); (first
   | refine W.ld rfl rfl rfl rfl ?_
   | (with_reducible refine K_la 1 ?_); refine W.la (n := 1) (cs2 := [_]) rfl rfl rfl rfl ?_
   | (with_reducible refine K_la 2 ?_); refine W.la (n := 2) (cs2 := [_, _]) rfl rfl rfl rfl ?_
   | (with_reducible refine K_la 3 ?_); refine W.la (n := 3) (cs2 := [_, _, _]) rfl rfl rfl rfl ?_
   | (with_reducible refine K_la 4 ?_); refine W.la (n := 4) (cs2 := [_, _, _, _]) rfl rfl rfl rfl ?_
   | (with_reducible refine K_la 5 ?_); refine W.la (n := 5) (cs2 := [_, _, _, _, _]) rfl rfl rfl rfl ?_
   | (with_reducible refine K_la 6 ?_); refine W.la (n := 6) (cs2 := [_, _, _, _, _, _]) rfl rfl rfl rfl ?_
   | (with_reducible refine K_la 7 ?_); refine W.la (n := 7) (cs2 := [_, _, _, _, _, _, _]) rfl rfl rfl rfl ?_
   | (with_reducible refine K_la 8 ?_); refine W.la (n := 8) (cs2 := [_, _, _, _, _, _, _, _]) rfl rfl rfl rfl ?_
   | (with_reducible refine K_la 10 ?_); refine W.la (n := 10) (cs2 := [_, _, _, _, _, _, _, _, _, _]) rfl rfl rfl rfl ?_
   | (with_reducible refine K_la 13 ?_); refine W.la (n := 13) (cs2 := [_, _, _, _, _, _, _, _, _, _, _, _, _]) rfl rfl rfl rfl ?_
   | (with_reducible refine K_la 27 ?_); refine W.la (n := 27) (cs2 := [_, _, _, _, _, _, _, _, _, _, _, _, _, _, _, _, _, _, _, _, _, _, _, _, _, _, _]) rfl rfl rfl rfl ?_))
  | ((with_reducible refine K_fa _ _ ?_); refine W.fa rfl rfl rfl ?_)
  | ((with_reducible refine K_bn _ _ ?_); (first
   | (with_reducible refine K_bn .add _ ?_); refine W.addI rfl rfl rfl ?_ ?_; (focus (clear q; omega))
   | (with_reducible refine K_bn .mul _ ?_); refine W.mulI rfl rfl rfl ?_ ?_; (focus (clear q; omega))
   | (with_reducible refine K_bn .sub _ ?_); refine W.subI rfl rfl rfl ?_ ?_; (focus (clear q; omega))
   | (with_reducible refine K_bn .eql 4 ?_); refine W.eqB rfl ib4 rfl rfl ?_
   | (with_reducible refine K_bn .neq 4 ?_); refine W.neB rfl ib4 rfl rfl ?_
   | (with_reducible refine K_bn .eql _ ?_); refine W.seq rfl Tryz.underlying9 rfl rfl ?_
   | (with_reducible refine K_bn .neq _ ?_); refine W.sne rfl Tryz.underlying9 rfl rfl ?_
   | (with_reducible refine K_bn .lss _ ?_); refine W.slss rfl rfl rfl ?_
   | (with_reducible refine K_bn .gtr _ ?_); refine W.sgtr rfl rfl rfl ?_
   | refine W.bin rfl rfl rfl rfl ?_))
  | ((with_reducible refine K_st _ ?_); (first
   | refine W.st (cs2 := [_]) rfl rfl rfl rfl ?_
   | refine W.st (cs2 := [_, _]) rfl rfl rfl rfl ?_
   | refine W.st (cs2 := [_, _, _]) rfl rfl rfl rfl ?_
   | refine W.st (cs2 := [_, _, _, _]) rfl rfl rfl rfl ?_
   | refine W.st (cs2 := [_, _, _, _, _]) rfl rfl rfl rfl ?_
   | refine W.st (cs2 := [_, _, _, _, _, _]) rfl rfl rfl rfl ?_
   | refine W.st (cs2 := [_, _, _, _, _, _, _, _]) rfl rfl rfl rfl ?_
   | refine W.st (cs2 := [_, _, _, _, _, _, _, _, _, _]) rfl rfl rfl rfl ?_
   | refine W.st (cs2 := [_, _, _, _, _, _, _, _, _, _, _, _, _]) rfl rfl rfl rfl ?_
   | refine W.st (cs2 := [_, _, _, _, _, _, _, _, _, _, _, _, _, _, _, _, _, _, _, _, _, _, _, _, _, _, _]) rfl rfl rfl rfl ?_))
  | ((with_reducible refine K_as ?_); refine W.assign rfl rfl ?_)
  | ((with_reducible refine K_g ?_); (first
   | refine W.gT rfl rfl ?_
   | refine W.gF rfl rfl rfl rfl ?_
   | refine W.gU rfl rfl rfl ?_))
  | ((with_reducible refine K_bx _ ?_); (first
   | (with_reducible refine K_bx 3 ?_); refine W.box _ rfl m64 rfl ?_
   | (with_reducible refine K_bx 4 ?_); refine W.box _ rfl m64 rfl ?_
   | (with_reducible refine K_bx 25 ?_); refine W.box _ rfl m64 rfl ?_
   | (with_reducible refine K_bx 33 ?_); refine W.box _ rfl m64 rfl ?_
   | (with_reducible refine K_bx 42 ?_); refine W.box _ rfl m64 rfl ?_
   | (with_reducible refine K_bx 46 ?_); refine W.box _ rfl m64 rfl ?_
   | (with_reducible refine K_bx 50 ?_); refine W.box _ rfl m64 rfl ?_
   | (with_reducible refine K_bx 55 ?_); refine W.box _ rfl m64 rfl ?_
   | (with_reducible refine K_bx 60 ?_); refine W.box _ rfl m64 rfl ?_
   | (with_reducible refine K_bx 73 ?_); refine W.box _ rfl m64 rfl ?_
   | (with_reducible refine K_bx 92 ?_); refine W.box _ rfl m64 rfl ?_
   | (with_reducible refine K_bx 94 ?_); refine W.box _ rfl m64 rfl ?_
   | (with_reducible refine K_bx 118 ?_); refine W.box _ rfl m64 rfl ?_
   | (with_reducible refine K_bx 120 ?_); refine W.box _ rfl m64 rfl ?_
   | (with_reducible refine K_bx 189 ?_); refine W.box _ rfl m64 rfl ?_
   | (with_reducible refine K_bx 193 ?_); refine W.box _ rfl m64 rfl ?_
   | (with_reducible refine K_bx 296 ?_); refine W.box _ rfl m64 rfl ?_))
  | ((with_reducible refine K_un _ ?_); (with_reducible refine K_un .not ?_); (first
   | refine W.notL (b' := true) rfl rfl rfl ?_
   | refine W.notL (b' := false) rfl rfl rfl ?_
   | refine W.notP rfl rfl ?_
   | refine W.not rfl rfl ?_))
  | ((with_reducible refine K_pk ?_); (first
   | refine W.pickT rfl rfl rfl ?_
   | refine W.pickF rfl rfl rfl ?_))
  | ((with_reducible refine K_bu _ _ ?_); (first
   | (with_reducible refine K_bu .min 3 ?_); refine W.minI rfl rfl rfl rfl ?_
   | (with_reducible refine K_bu .max 3 ?_); refine W.maxI rfl rfl rfl rfl ?_
   | (with_reducible refine K_bu .len 9 ?_); refine W.slen rfl Tryz.underlying9 rfl ?_
   | (with_reducible refine K_bu .len 22 ?_); (first
    | refine W.len rfl el22 rfl rfl lSrvs ?_
    | refine W.len rfl el22 rfl rfl rfl ?_)
   | (with_reducible refine K_bu .len 23 ?_); (first
    | refine W.len rfl el23 rfl rfl lLnks ?_
    | refine W.len rfl el23 rfl rfl rfl ?_)
   | (with_reducible refine K_bu .len 30 ?_); (first
    | refine W.len rfl el30 rfl rfl lInts ?_
    | refine W.len rfl el30 rfl rfl rfl ?_)
   | (with_reducible refine K_bu .len 31 ?_); (first
    | refine W.len rfl el31 rfl rfl lTabs ?_
    | refine W.len rfl el31 rfl rfl rfl ?_)
   | (with_reducible refine K_bu .len 39 ?_); (first
    | refine W.len rfl el39 rfl rfl lBools ?_
    | refine W.len rfl el39 rfl rfl rfl ?_)
   | (with_reducible refine K_bu .len 40 ?_); (first
    | refine W.len rfl el40 rfl rfl lMat ?_
    | refine W.len rfl el40 rfl rfl rfl ?_)
   | (with_reducible refine K_bu .len 44 ?_); (first
    | refine W.len rfl el44 rfl rfl lVers ?_
    | refine W.len rfl el44 rfl rfl rfl ?_)
   | (with_reducible refine K_bu .len 48 ?_); (first
    | refine W.len rfl el48 rfl rfl lTyps ?_
    | refine W.len rfl el48 rfl rfl rfl ?_)
   | (with_reducible refine K_bu .len 51 ?_); (first
    | refine W.len rfl el51 rfl rfl lCalls ?_
    | refine W.len rfl el51 rfl rfl rfl ?_)
   | (with_reducible refine K_bu .len 52 ?_); (first
    | refine W.len rfl el52 rfl rfl lSess ?_
    | refine W.len rfl el52 rfl rfl rfl ?_)
   | (with_reducible refine K_bu .len 53 ?_); (first
    | refine W.len rfl el53 rfl rfl lTops ?_
    | refine W.len rfl el53 rfl rfl rfl ?_)
   | (with_reducible refine K_bu .len 70 ?_); (first
    | refine W.len rfl el70 rfl rfl lSyms ?_
    | refine W.len rfl el70 rfl rfl rfl ?_)
   | (with_reducible refine K_bu .len 71 ?_); (first
    | refine W.len rfl el71 rfl rfl lMems ?_
    | refine W.len rfl el71 rfl rfl rfl ?_)
   | (with_reducible refine K_bu .len 89 ?_); (first
    | refine W.len rfl el89 rfl rfl lMsgs ?_
    | refine W.len rfl el89 rfl rfl rfl ?_)
   | (with_reducible refine K_bu .len 90 ?_); (first
    | refine W.len rfl el90 rfl rfl lEdges ?_
    | refine W.len rfl el90 rfl rfl rfl ?_)
   | (with_reducible refine K_bu .len 115 ?_); (first
    | refine W.len rfl el115 rfl rfl lVals ?_
    | refine W.len rfl el115 rfl rfl rfl ?_)
   | (with_reducible refine K_bu .len 116 ?_); (first
    | refine W.len rfl el116 rfl rfl lRaws ?_
    | refine W.len rfl el116 rfl rfl rfl ?_)
   | (with_reducible refine K_bu .len 123 ?_); (first
    | refine W.len rfl el123 rfl rfl lStrs ?_
    | refine W.len rfl el123 rfl rfl rfl ?_)))
  | ((with_reducible refine K_al _ ?_); (first
   | (with_reducible refine K_al 42 ?_); refine W.alloc _ rfl m64 zr42 ?_
   | (with_reducible refine K_al 46 ?_); refine W.alloc _ rfl m64 zr46 ?_
   | (with_reducible refine K_al 55 ?_); refine W.alloc _ rfl m64 zr55 ?_
   | (with_reducible refine K_al 60 ?_); refine W.alloc _ rfl m64 zr60 ?_
   | (with_reducible refine K_al 73 ?_); refine W.alloc _ rfl m64 zr73 ?_
   | (with_reducible refine K_al 75 ?_); refine W.alloc _ rfl m64 zr75 ?_
   | (with_reducible refine K_al 92 ?_); refine W.alloc _ rfl m64 zr92 ?_
   | (with_reducible refine K_al 94 ?_); refine W.alloc _ rfl m64 zr94 ?_
   | (with_reducible refine K_al 101 ?_); refine W.alloc _ rfl m64 zr101 ?_
   | (with_reducible refine K_al 118 ?_); refine W.alloc _ rfl m64 zr118 ?_
   | (with_reducible refine K_al 120 ?_); refine W.alloc _ rfl m64 zr120 ?_
   | (with_reducible refine K_al 125 ?_); refine W.alloc _ rfl m64 zr125 ?_
   | (with_reducible refine K_al 127 ?_); refine W.alloc _ rfl m64 zr127 ?_
   | (with_reducible refine K_al 142 ?_); refine W.alloc _ rfl m64 zr142 ?_
   | (with_reducible refine K_al 162 ?_); refine W.alloc _ rfl m64 zr162 ?_
   | (with_reducible refine K_al 168 ?_); refine W.alloc _ rfl m64 zr168 ?_
   | (with_reducible refine K_al 173 ?_); refine W.alloc _ rfl m64 zr173 ?_
   | (with_reducible refine K_al 189 ?_); refine W.alloc _ rfl m64 zr189 ?_
   | (with_reducible refine K_al 193 ?_); refine W.alloc _ rfl m64 zr193 ?_
   | (with_reducible refine K_al 296 ?_); refine W.alloc _ rfl m64 zr296 ?_))
  | ((with_reducible refine K_ex ?_); refine W.extract rfl rfl rfl ?_)
  | ((with_reducible refine K_bs _ ?_); (first
   | (with_reducible refine K_bs 30 ?_); (first
    | refine W.bs (rows := [[_]]) _ rfl m64 ef30 rfl rfl rfl ?_
    | refine W.bs (rows := [[_], [_], [_]]) _ rfl m64 ef30 rfl rfl rfl ?_
    | refine W.bs (rows := [[_], [_]]) _ rfl m64 ef30 rfl rfl rfl ?_)
   | (with_reducible refine K_bs 39 ?_); refine W.bs (rows := [[_]]) _ rfl m64 ef39 rfl rfl rfl ?_
   | (with_reducible refine K_bs 40 ?_); refine W.bs (rows := [[_]]) _ rfl m64 ef40 rfl rfl rfl ?_
   | (with_reducible refine K_bs 90 ?_); refine W.bs (rows := [[_, _, _, _]]) _ rfl m64 ef90 rfl rfl rfl ?_
   | (with_reducible refine K_bs 123 ?_); refine W.bs (rows := [[_]]) _ rfl m64 ef123 rfl rfl rfl ?_))
  | ((with_reducible refine K_bd _ ?_); (first
   | (with_reducible refine K_bd 73 ?_); refine W.build (cs2 := [_, _, _, _, _, _, _, _, _, _]) rfl pl73 rfl rfl ?_
   | (with_reducible refine K_bd 92 ?_); refine W.build (cs2 := [_, _, _]) rfl pl92 rfl rfl ?_
   | (with_reducible refine K_bd 101 ?_); refine W.build (cs2 := [_, _, _, _]) rfl pl101 rfl rfl ?_
   | (with_reducible refine K_bd 118 ?_); refine W.build (cs2 := [_, _, _, _, _, _, _, _]) rfl pl118 rfl rfl ?_
   | (with_reducible refine K_bd 125 ?_); refine W.build (cs2 := [_]) rfl pl125 rfl rfl ?_
   | (with_reducible refine K_bd 168 ?_); refine W.build (cs2 := [_, _, _]) rfl pl168 rfl rfl ?_
   | (with_reducible refine K_bd 189 ?_); refine W.build (cs2 := [_, _, _]) rfl pl189 rfl rfl ?_
   | (with_reducible refine K_bd 193 ?_); refine W.build (cs2 := [_, _, _, _]) rfl pl193 rfl rfl ?_))
  | ((with_reducible refine K_nc ?_); refine W.nilCheck rfl rfl rfl ?_)
  | ((with_reducible refine K_cv _ _ ?_); (with_reducible refine K_cv 2 275 ?_); (first
   | refine W.conv rfl ik2 ik275 rfl (wrap_u64 ?_) ?_; (focus (clear q; omega))
   | refine W.conv rfl ik2 ik275 rfl rfl ?_)))))
 | (repeat1' (with_reducible (first | refine JL.seq ?_ | refine JL.skip ?_ | refine JL.exit ?_ | refine JL.ret ?_ | refine JL.nil ?_ | refine outOf_normal ?_ | refine outOf_same ?_ | refine outOf_other rfl ?_ | refine outOf_ret ?_ | refine thenL_normal ?_ | refine thenL_exit ?_ | refine thenL_ret ?_ | refine roundOf_exit ?_ | refine roundOf_ret ?_)))
 | (with_reducible refine C_at ?_); (first | refine JL.condT rfl ?_ | refine JL.condF rfl ?_)
 | (with_reducible refine rg ?_ ?_); (focus exact rfl))
 exact q) : P := h q
theorem wB {P Q R : Prop} (q : Q) (r : R) (h : Q → R → P := by
 intro q r
 (with_reducible refine W_at ?_)
 (first
  | ((with_reducible refine K_ld _ ?_); refine x2ld ?_ ?_)
  | ((with_reducible refine K_bn _ _ ?_); (first
   | (with_reducible refine K_bn .shr _ ?_); refine W.shr rfl rfl rfl ?_ ?_
   | (with_reducible refine K_bn .shl _ ?_); refine W.shl rfl rfl rfl ?_ ?_))
  | ((with_reducible refine K_st _ ?_); refine x2st ?_ ?_)
  | ((with_reducible refine K_ix _ ?_); refine x2ix ?_ ?_)
  | ((with_reducible refine K_sl _ ?_); (first
   | (with_reducible refine K_sl 23 ?_); refine W.slice rfl el23 rfl rfl rfl ?_ nLnks ?_
   | (with_reducible refine K_sl 52 ?_); refine W.slice rfl el52 rfl rfl rfl ?_ nSess ?_))
  | ((with_reducible refine K_in _ ?_); (with_reducible refine K_in 9 ?_); (first
   | refine W.sidxN rfl Tryz.underlying9 rfl rfl ?_ ?_
   | refine W.sidx rfl Tryz.underlying9 rfl rfl ?_ ?_))
  | ((with_reducible refine K_mk _ ?_); (first
   | (with_reducible refine K_mk 30 ?_); refine W.make _ rfl m64 ef30 ns3 rfl rfl rfl ?_ rInts ?_
   | (with_reducible refine K_mk 39 ?_); refine W.make _ rfl m64 ef39 ns4 rfl rfl rfl ?_ rBools ?_))
  | ((with_reducible refine K_bu _ _ ?_); refine x2bu ?_ ?_))
 exact q
 exact r) : P := h q r
theorem wC {P Q R : Prop} (q : Q) (r : R) (h : Q → R → P := by
 intro q r
 (first
 | (with_reducible refine C_at ?_); (first | refine JL.condN rfl ?_ ?_ | refine JL.condP rfl ?_ ?_ | refine JL.cond rfl ?_ ?_)
 | (with_reducible refine W_at ?_); (with_reducible refine K_g ?_); (first | refine W.gSN rfl rfl ?_ ?_ | refine W.gS rfl rfl ?_ ?_ | refine W.gSB rfl rfl ?_ ?_))
 exact q
 exact r) : P := h q r
theorem kA {P : Prop} (h : P := by
 (first
 | (with_reducible (first | exact chkT_nil | exact chkB_nil | exact avTo_dead | exact avTo_un | exact cellsTo_nl | exact cellTo_same | exact cellTo_zz))
 | (with_reducible refine avTo_tup ?_); (focus rfl)
 | (with_reducible refine CS_at ?_); exact cellsTo_same rfl
 | (with_reducible refine CE_at ?_); (first | exact cellTo_ow rfl | exact cellTo_pt rfl)
 | (with_reducible rfl)
 | (refine ND.mk ?_; kernel_rfl))) : P := h
theorem kB {P Q : Prop} (q : Q) (h : Q → P := by
 intro q
 (first
 | (with_reducible (first | refine chkB_none ?_ | refine avTo_w ?_ | refine boxTo_stw ?_ | refine boxTo_slw ?_ | refine boxTo_fzw ?_ | refine boxTo_mpw ?_))
 | (with_reducible refine T_at ?_); refine chkT_skip rfl ?_
 | (with_reducible refine B_at ?_); refine chkB_skip rfl ?_
 | (with_reducible refine CE_at ?_); (first | refine cellTo_int ?_ | refine cellTo_bool ?_ | refine cellTo_str ?_ | refine cellTo_sl ?_ | refine cellTo_zd ?_ | refine cellTo_fz rfl ?_))
 exact q) : P := h q
theorem kC {P Q R : Prop} (q : Q) (r : R) (h : Q → R → P := by
 intro q r
 (first
 | (with_reducible refine T_at ?_); refine chkT_cons rfl ?_ rfl ?_
 | (with_reducible refine B_at ?_); refine chkB_cons rfl ?_ rfl rfl ?_
 | (with_reducible refine cellsTo_cn ?_ ?_)
 | (with_reducible refine CS_at ?_); refine cellsTo_cn ?_ ?_)
 exact q
 exact r) : P := h q r
theorem kD {P : Prop} (h : P := by
 (with_reducible refine CE_at ?_)
 exact cellTo_rn rfl) : P := h
theorem oA {P : Prop} (h : P := by
 (first
 | exact OutVs.nil
 | exact OutCs.nil
 | with_reducible exact OutC.d rfl
 | exact OutC.zz
 | exact OutC.rp
 | with_reducible rfl)) : P := h
theorem oB {P Q : Prop} (q : Q) (h : Q → P := by
 intro q
 (first | refine OutC.int ?_ | refine OutC.bool ?_ | refine OutC.sl ?_ | refine OutC.own rfl ?_ | refine OutC.fz rfl ?_ | refine OutC.zero ?_ | refine OutC.d ?_)
 exact q) : P := h q
theorem oC {P Q R : Prop} (q : Q) (r : R) (h : Q → R → P := by
 intro q r
 (first | refine OutVs.cons ?_ ?_ | refine OutCs.cons ?_ ?_)
 exact q
 exact r) : P := h q r
theorem RC_at {a t : Nat} {l : List ResultVar} {vs : List (Bool × List C)} [LdC t] (h : ResW Tryz.prog tm bo (.cell a t :: l) vs) : ResW Tryz.prog tm bo (.cell a t :: l) vs := h
theorem RA_at {a t : Nat} {l : List ResultVar} {vs : List (Bool × List C)} (n : Nat) [LdA t n] (h : ResW Tryz.prog tm bo (.cell a t :: l) vs) : ResW Tryz.prog tm bo (.cell a t :: l) vs := h
theorem eW {fn : Func} {args : List Arg} {vs : List (Bool × List C)} {l : List ResultVar} {ys : List (Bool × List C)} (hfr : fn.results = l.toArray) (ho : OutVs (lko bo) vs ys) (hr : ResW Tryz.prog tm bo l vs := by
 (repeat' (first | exact ResW.nil | refine ResW.tmp rfl ?_ | (refine RC_at ?_; refine ResW.cell LdC.h rfl rfl rfl ?_) | (refine RA_at 1 ?_; refine ResW.cellA (cs' := [_]) (LdA.h (n := 1)) rfl rfl rfl ?_) | (refine RA_at 2 ?_; refine ResW.cellA (cs' := [_, _]) (LdA.h (n := 2)) rfl rfl rfl ?_) | (refine RA_at 3 ?_; refine ResW.cellA (cs' := [_, _, _]) (LdA.h (n := 3)) rfl rfl rfl ?_) | (refine RA_at 4 ?_; refine ResW.cellA (cs' := [_, _, _, _]) (LdA.h (n := 4)) rfl rfl rfl ?_) | (refine RA_at 5 ?_; refine ResW.cellA (cs' := [_, _, _, _, _]) (LdA.h (n := 5)) rfl rfl rfl ?_) | (refine RA_at 6 ?_; refine ResW.cellA (cs' := [_, _, _, _, _, _]) (LdA.h (n := 6)) rfl rfl rfl ?_) | (refine RA_at 7 ?_; refine ResW.cellA (cs' := [_, _, _, _, _, _, _]) (LdA.h (n := 7)) rfl rfl rfl ?_) | (refine RA_at 8 ?_; refine ResW.cellA (cs' := [_, _, _, _, _, _, _, _]) (LdA.h (n := 8)) rfl rfl rfl ?_) | (refine RA_at 10 ?_; refine ResW.cellA (cs' := [_, _, _, _, _, _, _, _, _, _]) (LdA.h (n := 10)) rfl rfl rfl ?_) | (refine RA_at 13 ?_; refine ResW.cellA (cs' := [_, _, _, _, _, _, _, _, _, _, _, _, _]) (LdA.h (n := 13)) rfl rfl rfl ?_) | (refine RA_at 27 ?_; refine ResW.cellA (cs' := [_, _, _, _, _, _, _, _, _, _, _, _, _, _, _, _, _, _, _, _, _, _, _, _, _, _, _]) (LdA.h (n := 27)) rfl rfl rfl ?_)))) (hio : args.all (fun a => !isIo a) = true := by exact rfl) : FinW Tryz.prog fn args { vals := ys } .ret ⟨tm, clean bo, nx⟩ := endW hfr hr ho hio
theorem eO {fn : Func} {args : List Arg} {vs : List (Bool × List C)} {l : List ResultVar} {ax : AX} {r : ARes} (hfr : fn.results = l.toArray) (h : outO (clean bo) vs args = some r) (hax : ax = .ret ∨ (ax = .normal ∧ l = []) := by
 (first | exact .inl rfl | exact .inr ⟨rfl, rfl⟩)) (hr : ResW Tryz.prog tm bo l vs := by
 (repeat' (first | exact ResW.nil | refine ResW.tmp rfl ?_ | (refine RC_at ?_; refine ResW.cell LdC.h rfl rfl rfl ?_) | (refine RA_at 1 ?_; refine ResW.cellA (cs' := [_]) (LdA.h (n := 1)) rfl rfl rfl ?_) | (refine RA_at 2 ?_; refine ResW.cellA (cs' := [_, _]) (LdA.h (n := 2)) rfl rfl rfl ?_) | (refine RA_at 3 ?_; refine ResW.cellA (cs' := [_, _, _]) (LdA.h (n := 3)) rfl rfl rfl ?_) | (refine RA_at 4 ?_; refine ResW.cellA (cs' := [_, _, _, _]) (LdA.h (n := 4)) rfl rfl rfl ?_) | (refine RA_at 5 ?_; refine ResW.cellA (cs' := [_, _, _, _, _]) (LdA.h (n := 5)) rfl rfl rfl ?_) | (refine RA_at 6 ?_; refine ResW.cellA (cs' := [_, _, _, _, _, _]) (LdA.h (n := 6)) rfl rfl rfl ?_) | (refine RA_at 7 ?_; refine ResW.cellA (cs' := [_, _, _, _, _, _, _]) (LdA.h (n := 7)) rfl rfl rfl ?_) | (refine RA_at 8 ?_; refine ResW.cellA (cs' := [_, _, _, _, _, _, _, _]) (LdA.h (n := 8)) rfl rfl rfl ?_) | (refine RA_at 10 ?_; refine ResW.cellA (cs' := [_, _, _, _, _, _, _, _, _, _]) (LdA.h (n := 10)) rfl rfl rfl ?_) | (refine RA_at 13 ?_; refine ResW.cellA (cs' := [_, _, _, _, _, _, _, _, _, _, _, _, _]) (LdA.h (n := 13)) rfl rfl rfl ?_) | (refine RA_at 27 ?_; refine ResW.cellA (cs' := [_, _, _, _, _, _, _, _, _, _, _, _, _, _, _, _, _, _, _, _, _, _, _, _, _, _, _]) (LdA.h (n := 27)) rfl rfl rfl ?_)))) : FinO Tryz.prog fn args r ax ⟨tm, clean bo, nx⟩ := by
 rcases hax with rfl | ⟨rfl, rfl⟩
 ·exact endO1 hfr hr h
 ·exact endO1n hfr hr h
theorem oM {P : Prop} (h : P := by
 (first
 | omega
 | (simp only [IntKind.bits, List.length_append, List.length_cons, List.length_nil, List.length_map, List.length_take, List.length_drop, List.length_replicate, List.length_range, List.length_set, lInts, lSets, lBools, lMat, lTabs, lMixes, lSteps, lNodes, lConfs, lEnts, lActs, lCtls, lSigs, lReps, lCalls, lEdges, lLnks, lMems, lMsgs, lRaws, lSess, lSrvs, lStrs, lSyms, lTops, lTyps, lVals, lVers]; omega))) : P := h
theorem zC {P Q K : Prop} (c : K) (q : Q) (h : K → Q → P := by
 intro c q
 (first | refine W.call0A rfl BoC.h c rfl rfl rfl ?_ | refine W.call0T rfl BoC.h c rfl rfl rfl ?_ | refine W.call1A rfl BoC.h c rfl rfl rfl rfl rfl ?_ | refine W.call1T rfl BoC.h c rfl rfl rfl rfl rfl ?_)
 exact q) : P := h c q
theorem zI {P Q K : Prop} (c : K) (q : Q) (h : K → Q → P := by
 intro c q
 (first | refine W.callIO rfl BoC.h c rfl rfl rfl rfl rfl rfl rfl rfl rfl rfl rfl rfl rfl ?_)
 exact q) : P := h c q
end Go.Proofs.YtjpdemikmdfonaaGreatDoor

