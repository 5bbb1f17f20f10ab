/- Rules of runs and contracts of functions, for the claims of one seat. -/
import Derived.Test.YtngjhkgcfabciaaGreatQA12
import Derived.Test.YtngjhkgcfabciaaGreatQA13
import Derived.Test.YtngjhkgcfabciaaGreatQA14
namespace Go.Proofs.YtngjhkgcfabciaaGreat
open Go Go.RowKit
set_option linter.unusedVariables false
set_option maxRecDepth 100000
theorem m64 {i k : Nat} (h : i * 64 = k := by
 (first | (simp only [Nat.reduceAdd, Nat.reduceMul]; done) | (simp only [Nat.reduceAdd, Nat.reduceMul]; exact rfl))) : i * 64 = k := h
variable {N : Nat} {dr : Bool} {cs : List Code} {R : AX → St → Prop} {tm : List (Nat × AV)} {bo : BO} {nx : Nat} {ops : Array Oper} {i : Nat} {os : List Oper} {ns : List Note} {d : Nat} {pos : String} {ty : TypeId} {af : Array Edge} {lend : FuncId → Bool}
theorem K_la {t : TypeId} {x : Operand} (n : Nat) [LdA t n] (h : W Tryz.prog lend N ops dr cs R i (⟨some d, .load t x, ty, pos, af, none⟩ :: os) tm bo nx ns) : W Tryz.prog lend N ops dr cs R i (⟨some d, .load t x, ty, pos, af, none⟩ :: os) tm bo nx ns := h
theorem W.la {t : TypeId} {x : Operand} {c : C} {cs' cs2 : List C} {off n : Nat} [hl : LdA t n] (hd : Nat.blt d N = true) (hx : (ev (lk tm) x).bind slot1 = some c) (hb : behind (lko bo) c = some (cs', off)) (hc : subC off n cs' = some cs2) (h : W Tryz.prog lend N ops dr cs R (i + 1) os ((d, .one true cs2) :: tm) bo nx (ns ++ [⟨opKeys (lk tm) (lko bo) ⟨some d, .load t x, ty, pos, af, none⟩, []⟩])) : W Tryz.prog lend N ops dr cs R i (⟨some d, .load t x, ty, pos, af, none⟩ :: os) tm bo nx ns := W.loadA hd hl.h hx hb hc h
theorem F_at {P : Program} {fn : Func} {args : List Arg} {r : ARes} {ax : AX} {st : St} (h : FinW P fn args r ax st) : FinW P fn args r ax st := h
theorem FO_at {P : Program} {fn : Func} {args : List Arg} {r : ARes} {ax : AX} {st : St} (h : FinO P fn args r ax st) : FinO P fn args r ax st := h
theorem x2ld {P Q R : Prop} (q : Q) (r : R) (h : Q → R → P := by
 intro q r
 (first
  | (with_reducible refine K_ld 2 ?_); (first
   | refine W.load rfl ld2.h rfl (behind_el rfl (zActs ?_)) rfl ?_
   | refine W.load rfl ld2.h rfl (behind_el rfl (zCtls ?_)) rfl ?_
   | refine W.load rfl ld2.h rfl (behind_el rfl (zEnts ?_)) rfl ?_
   | refine W.load rfl ld2.h rfl (behind_el rfl (zInts ?_)) rfl ?_
   | refine W.load rfl ld2.h rfl (behind_el rfl (zSets ?_)) rfl ?_
   | refine W.load rfl ld2.h rfl (behind_el rfl (zSteps ?_)) rfl ?_)
  | (with_reducible refine K_ld 3 ?_); (first
   | refine W.load rfl ld3.h rfl (behind_el rfl (zActs ?_)) rfl ?_
   | refine W.load rfl ld3.h rfl (behind_el rfl (zCtls ?_)) rfl ?_
   | refine W.load rfl ld3.h rfl (behind_el rfl (zEnts ?_)) rfl ?_
   | refine W.load rfl ld3.h rfl (behind_el rfl (zInts ?_)) rfl ?_
   | refine W.load rfl ld3.h rfl (behind_el rfl (zSets ?_)) rfl ?_
   | refine W.load rfl ld3.h rfl (behind_el rfl (zSteps ?_)) rfl ?_
   | refine W.load rfl ld3.h rfl (behind_el rfl (zLinks ?_)) rfl ?_
   | refine W.load rfl ld3.h rfl (behind_el rfl (zMat ?_)) rfl ?_
   | refine W.load rfl ld3.h rfl (behind_el rfl (zTabs ?_)) rfl ?_
   | refine W.load rfl ld3.h rfl (behind_el rfl (zMixes ?_)) rfl ?_
   | refine W.load rfl ld3.h rfl (behind_el rfl (zBools ?_)) rfl ?_
   | refine W.load rfl ld3.h rfl (behind_el rfl (zNodes ?_)) rfl ?_
   | refine W.load rfl ld3.h rfl (behind_el rfl (zConfs ?_)) rfl ?_)
  | (with_reducible refine K_ld 4 ?_); (first
   | refine W.load rfl ld4.h rfl (behind_el rfl (zInts ?_)) rfl ?_
   | refine W.load rfl ld4.h rfl (behind_el rfl (zLinks ?_)) rfl ?_
   | refine W.load rfl ld4.h rfl (behind_el rfl (zMat ?_)) rfl ?_
   | refine W.load rfl ld4.h rfl (behind_el rfl (zSets ?_)) rfl ?_
   | refine W.load rfl ld4.h rfl (behind_el rfl (zTabs ?_)) rfl ?_
   | refine W.load rfl ld4.h rfl (behind_el rfl (zActs ?_)) rfl ?_
   | refine W.load rfl ld4.h rfl (behind_el rfl (zSteps ?_)) rfl ?_
   | refine W.load rfl ld4.h rfl (behind_el rfl (zBools ?_)) rfl ?_
   | refine W.load rfl ld4.h rfl (behind_el rfl (zConfs ?_)) rfl ?_)
  | (with_reducible refine K_ld 5 ?_); (first
   | refine W.load rfl ld5.h rfl (behind_el rfl (zActs ?_)) rfl ?_
   | refine W.load rfl ld5.h rfl (behind_el rfl (zCtls ?_)) rfl ?_
   | refine W.load rfl ld5.h rfl (behind_el rfl (zEnts ?_)) rfl ?_
   | refine W.load rfl ld5.h rfl (behind_el rfl (zInts ?_)) rfl ?_
   | refine W.load rfl ld5.h rfl (behind_el rfl (zSets ?_)) rfl ?_
   | refine W.load rfl ld5.h rfl (behind_el rfl (zSteps ?_)) rfl ?_
   | refine W.load rfl ld5.h rfl (behind_el rfl (zLinks ?_)) rfl ?_
   | refine W.load rfl ld5.h rfl (behind_el rfl (zMat ?_)) rfl ?_
   | refine W.load rfl ld5.h rfl (behind_el rfl (zTabs ?_)) rfl ?_)
  | (with_reducible refine K_ld 22 ?_); (first
   | refine W.load rfl ld22.h rfl (behind_el rfl (zActs ?_)) rfl ?_
   | refine W.load rfl ld22.h rfl (behind_el rfl (zCtls ?_)) rfl ?_
   | refine W.load rfl ld22.h rfl (behind_el rfl (zEnts ?_)) rfl ?_
   | refine W.load rfl ld22.h rfl (behind_el rfl (zInts ?_)) rfl ?_
   | refine W.load rfl ld22.h rfl (behind_el rfl (zSets ?_)) rfl ?_
   | refine W.load rfl ld22.h rfl (behind_el rfl (zSteps ?_)) rfl ?_
   | refine W.load rfl ld22.h rfl (behind_el rfl (zLinks ?_)) rfl ?_
   | refine W.load rfl ld22.h rfl (behind_el rfl (zMat ?_)) rfl ?_
   | refine W.load rfl ld22.h rfl (behind_el rfl (zTabs ?_)) rfl ?_)
  | (with_reducible refine K_ld 23 ?_); (first
   | refine W.load rfl ld23.h rfl (behind_el rfl (zInts ?_)) rfl ?_
   | refine W.load rfl ld23.h rfl (behind_el rfl (zLinks ?_)) rfl ?_
   | refine W.load rfl ld23.h rfl (behind_el rfl (zMat ?_)) rfl ?_
   | refine W.load rfl ld23.h rfl (behind_el rfl (zSets ?_)) rfl ?_
   | refine W.load rfl ld23.h rfl (behind_el rfl (zTabs ?_)) rfl ?_)
  | (with_reducible refine K_ld 25 ?_); (first
   | refine W.loadA (cs2 := [_, _, _, _]) rfl ld25.h rfl (behind_el rfl (zActs ?_)) rfl ?_
   | refine W.loadA (cs2 := [_, _, _, _]) rfl ld25.h rfl (behind_el rfl (zCtls ?_)) rfl ?_
   | refine W.loadA (cs2 := [_, _, _, _]) rfl ld25.h rfl (behind_el rfl (zEnts ?_)) rfl ?_
   | refine W.loadA (cs2 := [_, _, _, _]) rfl ld25.h rfl (behind_el rfl (zInts ?_)) rfl ?_
   | refine W.loadA (cs2 := [_, _, _, _]) rfl ld25.h rfl (behind_el rfl (zSets ?_)) rfl ?_
   | refine W.loadA (cs2 := [_, _, _, _]) rfl ld25.h rfl (behind_el rfl (zSteps ?_)) rfl ?_)
  | (with_reducible refine K_ld 27 ?_); (first
   | refine W.loadA (cs2 := [_, _, _, _, _, _]) rfl ld27.h rfl (behind_el rfl (zEnts ?_)) rfl ?_
   | refine W.loadA (cs2 := [_, _, _, _, _, _]) rfl ld27.h rfl (behind_el rfl (zInts ?_)) rfl ?_
   | refine W.loadA (cs2 := [_, _, _, _, _, _]) rfl ld27.h rfl (behind_el rfl (zSets ?_)) rfl ?_
   | refine W.loadA (cs2 := [_, _, _, _, _, _]) rfl ld27.h rfl (behind_el rfl (zSteps ?_)) rfl ?_)
  | (with_reducible refine K_ld 28 ?_); (first
   | refine W.load rfl ld28.h rfl (behind_el rfl (zInts ?_)) rfl ?_
   | refine W.load rfl ld28.h rfl (behind_el rfl (zLinks ?_)) rfl ?_
   | refine W.load rfl ld28.h rfl (behind_el rfl (zMat ?_)) rfl ?_
   | refine W.load rfl ld28.h rfl (behind_el rfl (zSets ?_)) rfl ?_
   | refine W.load rfl ld28.h rfl (behind_el rfl (zTabs ?_)) rfl ?_)
  | (with_reducible refine K_ld 29 ?_); (first
   | refine W.load rfl ld29.h rfl (behind_el rfl (zEnts ?_)) rfl ?_
   | refine W.load rfl ld29.h rfl (behind_el rfl (zInts ?_)) rfl ?_
   | refine W.load rfl ld29.h rfl (behind_el rfl (zSets ?_)) rfl ?_
   | refine W.load rfl ld29.h rfl (behind_el rfl (zSteps ?_)) rfl ?_
   | refine W.load rfl ld29.h rfl (behind_el rfl (zActs ?_)) rfl ?_
   | refine W.load rfl ld29.h rfl (behind_el rfl (zCtls ?_)) rfl ?_
   | refine W.load rfl ld29.h rfl (behind_el rfl (zLinks ?_)) rfl ?_
   | refine W.load rfl ld29.h rfl (behind_el rfl (zMat ?_)) rfl ?_
   | refine W.load rfl ld29.h rfl (behind_el rfl (zTabs ?_)) rfl ?_
   | refine W.load rfl ld29.h rfl (behind_el rfl (zMixes ?_)) rfl ?_
   | refine W.load rfl ld29.h rfl (behind_el rfl (zBools ?_)) rfl ?_
   | refine W.load rfl ld29.h rfl (behind_el rfl (zConfs ?_)) rfl ?_)
  | (with_reducible refine K_ld 30 ?_); (first
   | refine W.load rfl ld30.h rfl (behind_el rfl (zInts ?_)) rfl ?_
   | refine W.load rfl ld30.h rfl (behind_el rfl (zLinks ?_)) rfl ?_
   | refine W.load rfl ld30.h rfl (behind_el rfl (zMat ?_)) rfl ?_
   | refine W.load rfl ld30.h rfl (behind_el rfl (zSets ?_)) rfl ?_
   | refine W.load rfl ld30.h rfl (behind_el rfl (zTabs ?_)) rfl ?_
   | refine W.load rfl ld30.h rfl (behind_el rfl (zSteps ?_)) rfl ?_
   | refine W.load rfl ld30.h rfl (behind_el rfl (zBools ?_)) rfl ?_
   | refine W.load rfl ld30.h rfl (behind_el rfl (zConfs ?_)) rfl ?_)
  | (with_reducible refine K_ld 32 ?_); (first
   | refine W.loadA (cs2 := [_, _, _, _]) rfl ld32.h rfl (behind_el rfl (zEnts ?_)) rfl ?_
   | refine W.loadA (cs2 := [_, _, _, _]) rfl ld32.h rfl (behind_el rfl (zInts ?_)) rfl ?_
   | refine W.loadA (cs2 := [_, _, _, _]) rfl ld32.h rfl (behind_el rfl (zSets ?_)) rfl ?_
   | refine W.loadA (cs2 := [_, _, _, _]) rfl ld32.h rfl (behind_el rfl (zSteps ?_)) rfl ?_
   | refine W.loadA (cs2 := [_, _, _, _]) rfl ld32.h rfl (behind_el rfl (zActs ?_)) rfl ?_
   | refine W.loadA (cs2 := [_, _, _, _]) rfl ld32.h rfl (behind_el rfl (zCtls ?_)) rfl ?_
   | refine W.loadA (cs2 := [_, _, _, _]) rfl ld32.h rfl (behind_el rfl (zLinks ?_)) rfl ?_
   | refine W.loadA (cs2 := [_, _, _, _]) rfl ld32.h rfl (behind_el rfl (zMat ?_)) rfl ?_
   | refine W.loadA (cs2 := [_, _, _, _]) rfl ld32.h rfl (behind_el rfl (zTabs ?_)) rfl ?_
   | refine W.loadA (cs2 := [_, _, _, _]) rfl ld32.h rfl (behind_el rfl (zMixes ?_)) rfl ?_
   | refine W.loadA (cs2 := [_, _, _, _]) rfl ld32.h rfl (behind_el rfl (zNodes ?_)) rfl ?_
   | refine W.loadA (cs2 := [_, _, _, _]) rfl ld32.h rfl (behind_el rfl (zConfs ?_)) rfl ?_)
  | (with_reducible refine K_ld 33 ?_); (first
   | refine W.load rfl ld33.h rfl (behind_el rfl (zEnts ?_)) rfl ?_
   | refine W.load rfl ld33.h rfl (behind_el rfl (zInts ?_)) rfl ?_
   | refine W.load rfl ld33.h rfl (behind_el rfl (zSets ?_)) rfl ?_
   | refine W.load rfl ld33.h rfl (behind_el rfl (zSteps ?_)) rfl ?_
   | refine W.load rfl ld33.h rfl (behind_el rfl (zActs ?_)) rfl ?_
   | refine W.load rfl ld33.h rfl (behind_el rfl (zCtls ?_)) rfl ?_)
  | (with_reducible refine K_ld 34 ?_); (first
   | refine W.load rfl ld34.h rfl (behind_el rfl (zEnts ?_)) rfl ?_
   | refine W.load rfl ld34.h rfl (behind_el rfl (zInts ?_)) rfl ?_
   | refine W.load rfl ld34.h rfl (behind_el rfl (zSets ?_)) rfl ?_
   | refine W.load rfl ld34.h rfl (behind_el rfl (zSteps ?_)) rfl ?_
   | refine W.load rfl ld34.h rfl (behind_el rfl (zActs ?_)) rfl ?_
   | refine W.load rfl ld34.h rfl (behind_el rfl (zCtls ?_)) rfl ?_)
  | (with_reducible refine K_ld 35 ?_); (first
   | refine W.load rfl ld35.h rfl (behind_el rfl (zActs ?_)) rfl ?_
   | refine W.load rfl ld35.h rfl (behind_el rfl (zCtls ?_)) rfl ?_
   | refine W.load rfl ld35.h rfl (behind_el rfl (zEnts ?_)) rfl ?_
   | refine W.load rfl ld35.h rfl (behind_el rfl (zInts ?_)) rfl ?_
   | refine W.load rfl ld35.h rfl (behind_el rfl (zSets ?_)) rfl ?_
   | refine W.load rfl ld35.h rfl (behind_el rfl (zSteps ?_)) rfl ?_)
  | (with_reducible refine K_ld 37 ?_); (first
   | refine W.loadA (cs2 := [_, _, _, _, _, _, _, _, _]) rfl ld37.h rfl (behind_el rfl (zActs ?_)) rfl ?_
   | refine W.loadA (cs2 := [_, _, _, _, _, _, _, _, _]) rfl ld37.h rfl (behind_el rfl (zCtls ?_)) rfl ?_
   | refine W.loadA (cs2 := [_, _, _, _, _, _, _, _, _]) rfl ld37.h rfl (behind_el rfl (zEnts ?_)) rfl ?_
   | refine W.loadA (cs2 := [_, _, _, _, _, _, _, _, _]) rfl ld37.h rfl (behind_el rfl (zInts ?_)) rfl ?_
   | refine W.loadA (cs2 := [_, _, _, _, _, _, _, _, _]) rfl ld37.h rfl (behind_el rfl (zSets ?_)) rfl ?_
   | refine W.loadA (cs2 := [_, _, _, _, _, _, _, _, _]) rfl ld37.h rfl (behind_el rfl (zSteps ?_)) rfl ?_)
  | (with_reducible refine K_ld 43 ?_); (first
   | refine W.load rfl ld43.h rfl (behind_el rfl (zInts ?_)) rfl ?_
   | refine W.load rfl ld43.h rfl (behind_el rfl (zSets ?_)) rfl ?_
   | refine W.load rfl ld43.h rfl (behind_el rfl (zTabs ?_)) rfl ?_
   | refine W.load rfl ld43.h rfl (behind_el rfl (zBools ?_)) rfl ?_
   | refine W.load rfl ld43.h rfl (behind_el rfl (zMat ?_)) rfl ?_
   | refine W.load rfl ld43.h rfl (behind_el rfl (zConfs ?_)) rfl ?_
   | refine W.load rfl ld43.h rfl (behind_el rfl (zMixes ?_)) rfl ?_)
  | (with_reducible refine K_ld 45 ?_); (first
   | refine W.loadA (cs2 := [_, _, _]) rfl ld45.h rfl (behind_el rfl (zSteps ?_)) rfl ?_
   | refine W.loadA (cs2 := [_, _, _]) rfl ld45.h rfl (behind_el rfl (zInts ?_)) rfl ?_
   | refine W.loadA (cs2 := [_, _, _]) rfl ld45.h rfl (behind_el rfl (zSets ?_)) rfl ?_
   | refine W.loadA (cs2 := [_, _, _]) rfl ld45.h rfl (behind_el rfl (zTabs ?_)) rfl ?_
   | refine W.loadA (cs2 := [_, _, _]) rfl ld45.h rfl (behind_el rfl (zMixes ?_)) rfl ?_
   | refine W.loadA (cs2 := [_, _, _]) rfl ld45.h rfl (behind_el rfl (zNodes ?_)) rfl ?_
   | refine W.loadA (cs2 := [_, _, _]) rfl ld45.h rfl (behind_el rfl (zActs ?_)) rfl ?_
   | refine W.loadA (cs2 := [_, _, _]) rfl ld45.h rfl (behind_el rfl (zConfs ?_)) rfl ?_
   | refine W.loadA (cs2 := [_, _, _]) rfl ld45.h rfl (behind_el rfl (zBools ?_)) rfl ?_
   | refine W.loadA (cs2 := [_, _, _]) rfl ld45.h rfl (behind_el rfl (zMat ?_)) rfl ?_)
  | (with_reducible refine K_ld 47 ?_); (first
   | refine W.loadA (cs2 := [_, _, _, _, _, _, _, _, _]) rfl ld47.h rfl (behind_el rfl (zEnts ?_)) rfl ?_
   | refine W.loadA (cs2 := [_, _, _, _, _, _, _, _, _]) rfl ld47.h rfl (behind_el rfl (zInts ?_)) rfl ?_
   | refine W.loadA (cs2 := [_, _, _, _, _, _, _, _, _]) rfl ld47.h rfl (behind_el rfl (zSets ?_)) rfl ?_
   | refine W.loadA (cs2 := [_, _, _, _, _, _, _, _, _]) rfl ld47.h rfl (behind_el rfl (zSteps ?_)) rfl ?_
   | refine W.loadA (cs2 := [_, _, _, _, _, _, _, _, _]) rfl ld47.h rfl (behind_el rfl (zActs ?_)) rfl ?_
   | refine W.loadA (cs2 := [_, _, _, _, _, _, _, _, _]) rfl ld47.h rfl (behind_el rfl (zCtls ?_)) rfl ?_)
  | (with_reducible refine K_ld 56 ?_); (first
   | refine W.loadA (cs2 := [_, _, _, _, _, _, _]) rfl ld56.h rfl (behind_el rfl (zActs ?_)) rfl ?_
   | refine W.loadA (cs2 := [_, _, _, _, _, _, _]) rfl ld56.h rfl (behind_el rfl (zCtls ?_)) rfl ?_
   | refine W.loadA (cs2 := [_, _, _, _, _, _, _]) rfl ld56.h rfl (behind_el rfl (zEnts ?_)) rfl ?_
   | refine W.loadA (cs2 := [_, _, _, _, _, _, _]) rfl ld56.h rfl (behind_el rfl (zInts ?_)) rfl ?_
   | refine W.loadA (cs2 := [_, _, _, _, _, _, _]) rfl ld56.h rfl (behind_el rfl (zSets ?_)) rfl ?_
   | refine W.loadA (cs2 := [_, _, _, _, _, _, _]) rfl ld56.h rfl (behind_el rfl (zSteps ?_)) rfl ?_)
  | (with_reducible refine K_ld 62 ?_); (first
   | refine W.loadA (cs2 := [_, _, _, _]) rfl ld62.h rfl (behind_el rfl (zActs ?_)) rfl ?_
   | refine W.loadA (cs2 := [_, _, _, _]) rfl ld62.h rfl (behind_el rfl (zCtls ?_)) rfl ?_
   | refine W.loadA (cs2 := [_, _, _, _]) rfl ld62.h rfl (behind_el rfl (zEnts ?_)) rfl ?_
   | refine W.loadA (cs2 := [_, _, _, _]) rfl ld62.h rfl (behind_el rfl (zInts ?_)) rfl ?_
   | refine W.loadA (cs2 := [_, _, _, _]) rfl ld62.h rfl (behind_el rfl (zSets ?_)) rfl ?_
   | refine W.loadA (cs2 := [_, _, _, _]) rfl ld62.h rfl (behind_el rfl (zSteps ?_)) rfl ?_)
  | (with_reducible refine K_ld 66 ?_); refine W.loadA (cs2 := [_, _, _, _, _, _, _, _, _, _]) rfl ld66.h rfl (behind_el rfl (zActs ?_)) rfl ?_
  | (with_reducible refine K_ld 68 ?_); (first
   | refine W.loadA (cs2 := [_, _, _]) rfl ld68.h rfl (behind_el rfl (zSteps ?_)) rfl ?_
   | refine W.loadA (cs2 := [_, _, _]) rfl ld68.h rfl (behind_el rfl (zActs ?_)) rfl ?_
   | refine W.loadA (cs2 := [_, _, _]) rfl ld68.h rfl (behind_el rfl (zInts ?_)) rfl ?_
   | refine W.loadA (cs2 := [_, _, _]) rfl ld68.h rfl (behind_el rfl (zNodes ?_)) rfl ?_
   | refine W.loadA (cs2 := [_, _, _]) rfl ld68.h rfl (behind_el rfl (zTabs ?_)) rfl ?_
   | refine W.loadA (cs2 := [_, _, _]) rfl ld68.h rfl (behind_el rfl (zMixes ?_)) rfl ?_)
  | (with_reducible refine K_ld 103 ?_); (first
   | refine W.loadA (cs2 := [_, _, _, _, _, _]) rfl ld103.h rfl (behind_el rfl (zInts ?_)) rfl ?_
   | refine W.loadA (cs2 := [_, _, _, _, _, _]) rfl ld103.h rfl (behind_el rfl (zLinks ?_)) rfl ?_
   | refine W.loadA (cs2 := [_, _, _, _, _, _]) rfl ld103.h rfl (behind_el rfl (zMat ?_)) rfl ?_
   | refine W.loadA (cs2 := [_, _, _, _, _, _]) rfl ld103.h rfl (behind_el rfl (zSets ?_)) rfl ?_
   | refine W.loadA (cs2 := [_, _, _, _, _, _]) rfl ld103.h rfl (behind_el rfl (zTabs ?_)) rfl ?_)
  | (with_reducible refine K_ld 104 ?_); (first
   | refine W.load rfl ld104.h rfl (behind_el rfl (zBools ?_)) rfl ?_
   | refine W.load rfl ld104.h rfl (behind_el rfl (zInts ?_)) rfl ?_
   | refine W.load rfl ld104.h rfl (behind_el rfl (zMat ?_)) rfl ?_
   | refine W.load rfl ld104.h rfl (behind_el rfl (zSets ?_)) rfl ?_
   | refine W.load rfl ld104.h rfl (behind_el rfl (zTabs ?_)) rfl ?_
   | refine W.load rfl ld104.h rfl (behind_el rfl (zConfs ?_)) rfl ?_)
  | (with_reducible refine K_ld 106 ?_); (first
   | refine W.loadA (cs2 := [_, _, _, _, _, _]) rfl ld106.h rfl (behind_el rfl (zInts ?_)) rfl ?_
   | refine W.loadA (cs2 := [_, _, _, _, _, _]) rfl ld106.h rfl (behind_el rfl (zLinks ?_)) rfl ?_
   | refine W.loadA (cs2 := [_, _, _, _, _, _]) rfl ld106.h rfl (behind_el rfl (zMat ?_)) rfl ?_
   | refine W.loadA (cs2 := [_, _, _, _, _, _]) rfl ld106.h rfl (behind_el rfl (zSets ?_)) rfl ?_
   | refine W.loadA (cs2 := [_, _, _, _, _, _]) rfl ld106.h rfl (behind_el rfl (zTabs ?_)) rfl ?_
   | refine W.loadA (cs2 := [_, _, _, _, _, _]) rfl ld106.h rfl (behind_el rfl (zBools ?_)) rfl ?_
   | refine W.loadA (cs2 := [_, _, _, _, _, _]) rfl ld106.h rfl (behind_el rfl (zConfs ?_)) rfl ?_)
  | (with_reducible refine K_ld 144 ?_); (first
   | refine W.load rfl ld144.h rfl (behind_el rfl (zBools ?_)) rfl ?_
   | refine W.load rfl ld144.h rfl (behind_el rfl (zInts ?_)) rfl ?_
   | refine W.load rfl ld144.h rfl (behind_el rfl (zMat ?_)) rfl ?_
   | refine W.load rfl ld144.h rfl (behind_el rfl (zSets ?_)) rfl ?_
   | refine W.load rfl ld144.h rfl (behind_el rfl (zTabs ?_)) rfl ?_
   | refine W.load rfl ld144.h rfl (behind_el rfl (zConfs ?_)) rfl ?_)
  | (with_reducible refine K_ld 146 ?_); (first
   | refine W.load rfl ld146.h rfl (behind_el rfl (zInts ?_)) rfl ?_
   | refine W.load rfl ld146.h rfl (behind_el rfl (zSets ?_)) rfl ?_
   | refine W.load rfl ld146.h rfl (behind_el rfl (zBools ?_)) rfl ?_
   | refine W.load rfl ld146.h rfl (behind_el rfl (zMat ?_)) rfl ?_
   | refine W.load rfl ld146.h rfl (behind_el rfl (zTabs ?_)) rfl ?_
   | refine W.load rfl ld146.h rfl (behind_el rfl (zConfs ?_)) rfl ?_)
  | (with_reducible refine K_ld 158 ?_); (first
   | refine W.loadA (cs2 := [_, _, _]) rfl ld158.h rfl (behind_el rfl (zSteps ?_)) rfl ?_
   | refine W.loadA (cs2 := [_, _, _]) rfl ld158.h rfl (behind_el rfl (zConfs ?_)) rfl ?_
   | refine W.loadA (cs2 := [_, _, _]) rfl ld158.h rfl (behind_el rfl (zMixes ?_)) rfl ?_))
 exact q
 exact r) : P := h q r
theorem x2bn {P Q R : Prop} (q : Q) (r : R) (h : Q → R → P := by
 intro q r
 (first
  | (with_reducible refine K_bn .rem _ ?_); refine W.rem rfl rfl rfl ?_ ?_
  | (with_reducible refine K_bn .shl _ ?_); refine W.shl rfl rfl rfl ?_ ?_
  | (with_reducible refine K_bn .shr _ ?_); refine W.shr rfl rfl rfl ?_ ?_
  | (with_reducible refine K_bn .quo _ ?_); refine W.quo rfl rfl rfl ?_ ?_
  | (with_reducible refine K_bn .add _ ?_); refine W.sadd rfl rfl rfl ?_ ?_)
 exact q
 exact r) : P := h q r
theorem x2st {P Q R : Prop} (q : Q) (r : R) (h : Q → R → P := by
 intro q r
 (first
  | (with_reducible refine K_st 2 ?_); (first
   | refine W.storeE sz2.h rfl rfl rfl (zActs ?_) rfl (And.intro rfl (Nat.le_of_ble_eq_true rfl)) wActs ?_
   | refine W.storeE sz2.h rfl rfl rfl (zInts ?_) rfl (And.intro rfl (Nat.le_of_ble_eq_true rfl)) wInts ?_
   | refine W.storeE sz2.h rfl rfl rfl (zSteps ?_) rfl (And.intro rfl (Nat.le_of_ble_eq_true rfl)) wSteps ?_)
  | (with_reducible refine K_st 3 ?_); (first
   | refine W.storeE sz3.h rfl rfl rfl (zSteps ?_) rfl (And.intro rfl (Nat.le_of_ble_eq_true rfl)) wSteps ?_
   | refine W.storeE sz3.h rfl rfl rfl (zActs ?_) rfl (And.intro rfl (Nat.le_of_ble_eq_true rfl)) wActs ?_
   | refine W.storeE sz3.h rfl rfl rfl (zInts ?_) rfl (And.intro rfl (Nat.le_of_ble_eq_true rfl)) wInts ?_
   | refine W.storeE sz3.h rfl rfl rfl (zMixes ?_) rfl (And.intro rfl (Nat.le_of_ble_eq_true rfl)) wMixes ?_
   | refine W.storeE sz3.h rfl rfl rfl (zBools ?_) rfl (And.intro rfl (Nat.le_of_ble_eq_true rfl)) wBools ?_
   | refine W.storeE sz3.h rfl rfl rfl (zMat ?_) rfl (And.intro rfl (Nat.le_of_ble_eq_true rfl)) wMat ?_
   | refine W.storeE sz3.h rfl rfl rfl (zSets ?_) rfl (And.intro rfl (Nat.le_of_ble_eq_true rfl)) wSets ?_
   | refine W.storeE sz3.h rfl rfl rfl (zTabs ?_) rfl (And.intro rfl (Nat.le_of_ble_eq_true rfl)) wTabs ?_)
  | (with_reducible refine K_st 4 ?_); (first
   | refine W.storeE sz4.h rfl rfl rfl (zInts ?_) rfl (And.intro rfl (Nat.le_of_ble_eq_true rfl)) wInts ?_
   | refine W.storeE sz4.h rfl rfl rfl (zLinks ?_) rfl (And.intro rfl (Nat.le_of_ble_eq_true rfl)) wLinks ?_
   | refine W.storeE sz4.h rfl rfl rfl (zMat ?_) rfl (And.intro rfl (Nat.le_of_ble_eq_true rfl)) wMat ?_
   | refine W.storeE sz4.h rfl rfl rfl (zSets ?_) rfl (And.intro rfl (Nat.le_of_ble_eq_true rfl)) wSets ?_
   | refine W.storeE sz4.h rfl rfl rfl (zTabs ?_) rfl (And.intro rfl (Nat.le_of_ble_eq_true rfl)) wTabs ?_)
  | (with_reducible refine K_st 29 ?_); (first
   | refine W.storeE sz29.h rfl rfl rfl (zActs ?_) rfl (And.intro rfl (Nat.le_of_ble_eq_true rfl)) wActs ?_
   | refine W.storeE sz29.h rfl rfl rfl (zCtls ?_) rfl (And.intro rfl (Nat.le_of_ble_eq_true rfl)) wCtls ?_
   | refine W.storeE sz29.h rfl rfl rfl (zEnts ?_) rfl (And.intro rfl (Nat.le_of_ble_eq_true rfl)) wEnts ?_
   | refine W.storeE sz29.h rfl rfl rfl (zInts ?_) rfl (And.intro rfl (Nat.le_of_ble_eq_true rfl)) wInts ?_
   | refine W.storeE sz29.h rfl rfl rfl (zSets ?_) rfl (And.intro rfl (Nat.le_of_ble_eq_true rfl)) wSets ?_
   | refine W.storeE sz29.h rfl rfl rfl (zSteps ?_) rfl (And.intro rfl (Nat.le_of_ble_eq_true rfl)) wSteps ?_
   | refine W.storeE sz29.h rfl rfl rfl (zLinks ?_) rfl (And.intro rfl (Nat.le_of_ble_eq_true rfl)) wLinks ?_
   | refine W.storeE sz29.h rfl rfl rfl (zMat ?_) rfl (And.intro rfl (Nat.le_of_ble_eq_true rfl)) wMat ?_
   | refine W.storeE sz29.h rfl rfl rfl (zTabs ?_) rfl (And.intro rfl (Nat.le_of_ble_eq_true rfl)) wTabs ?_)
  | (with_reducible refine K_st 30 ?_); (first
   | refine W.storeE sz30.h rfl rfl rfl (zInts ?_) rfl (And.intro rfl (Nat.le_of_ble_eq_true rfl)) wInts ?_
   | refine W.storeE sz30.h rfl rfl rfl (zLinks ?_) rfl (And.intro rfl (Nat.le_of_ble_eq_true rfl)) wLinks ?_
   | refine W.storeE sz30.h rfl rfl rfl (zMat ?_) rfl (And.intro rfl (Nat.le_of_ble_eq_true rfl)) wMat ?_
   | refine W.storeE sz30.h rfl rfl rfl (zSets ?_) rfl (And.intro rfl (Nat.le_of_ble_eq_true rfl)) wSets ?_
   | refine W.storeE sz30.h rfl rfl rfl (zTabs ?_) rfl (And.intro rfl (Nat.le_of_ble_eq_true rfl)) wTabs ?_)
  | (with_reducible refine K_st 32 ?_); (first
   | refine W.storeE sz32.h rfl rfl rfl (zActs ?_) rfl (And.intro rfl (Nat.le_of_ble_eq_true rfl)) wActs ?_
   | refine W.storeE sz32.h rfl rfl rfl (zCtls ?_) rfl (And.intro rfl (Nat.le_of_ble_eq_true rfl)) wCtls ?_
   | refine W.storeE sz32.h rfl rfl rfl (zEnts ?_) rfl (And.intro rfl (Nat.le_of_ble_eq_true rfl)) wEnts ?_
   | refine W.storeE sz32.h rfl rfl rfl (zInts ?_) rfl (And.intro rfl (Nat.le_of_ble_eq_true rfl)) wInts ?_
   | refine W.storeE sz32.h rfl rfl rfl (zSets ?_) rfl (And.intro rfl (Nat.le_of_ble_eq_true rfl)) wSets ?_
   | refine W.storeE sz32.h rfl rfl rfl (zSteps ?_) rfl (And.intro rfl (Nat.le_of_ble_eq_true rfl)) wSteps ?_
   | refine W.storeE sz32.h rfl rfl rfl (zLinks ?_) rfl (And.intro rfl (Nat.le_of_ble_eq_true rfl)) wLinks ?_
   | refine W.storeE sz32.h rfl rfl rfl (zMat ?_) rfl (And.intro rfl (Nat.le_of_ble_eq_true rfl)) wMat ?_
   | refine W.storeE sz32.h rfl rfl rfl (zTabs ?_) rfl (And.intro rfl (Nat.le_of_ble_eq_true rfl)) wTabs ?_)
  | (with_reducible refine K_st 34 ?_); (first
   | refine W.storeE sz34.h rfl rfl rfl (zActs ?_) rfl (And.intro rfl (Nat.le_of_ble_eq_true rfl)) wActs ?_
   | refine W.storeE sz34.h rfl rfl rfl (zCtls ?_) rfl (And.intro rfl (Nat.le_of_ble_eq_true rfl)) wCtls ?_
   | refine W.storeE sz34.h rfl rfl rfl (zEnts ?_) rfl (And.intro rfl (Nat.le_of_ble_eq_true rfl)) wEnts ?_
   | refine W.storeE sz34.h rfl rfl rfl (zInts ?_) rfl (And.intro rfl (Nat.le_of_ble_eq_true rfl)) wInts ?_
   | refine W.storeE sz34.h rfl rfl rfl (zSets ?_) rfl (And.intro rfl (Nat.le_of_ble_eq_true rfl)) wSets ?_
   | refine W.storeE sz34.h rfl rfl rfl (zSteps ?_) rfl (And.intro rfl (Nat.le_of_ble_eq_true rfl)) wSteps ?_)
  | (with_reducible refine K_st 35 ?_); (first
   | refine W.storeE sz35.h rfl rfl rfl (zActs ?_) rfl (And.intro rfl (Nat.le_of_ble_eq_true rfl)) wActs ?_
   | refine W.storeE sz35.h rfl rfl rfl (zCtls ?_) rfl (And.intro rfl (Nat.le_of_ble_eq_true rfl)) wCtls ?_
   | refine W.storeE sz35.h rfl rfl rfl (zEnts ?_) rfl (And.intro rfl (Nat.le_of_ble_eq_true rfl)) wEnts ?_
   | refine W.storeE sz35.h rfl rfl rfl (zInts ?_) rfl (And.intro rfl (Nat.le_of_ble_eq_true rfl)) wInts ?_
   | refine W.storeE sz35.h rfl rfl rfl (zSets ?_) rfl (And.intro rfl (Nat.le_of_ble_eq_true rfl)) wSets ?_
   | refine W.storeE sz35.h rfl rfl rfl (zSteps ?_) rfl (And.intro rfl (Nat.le_of_ble_eq_true rfl)) wSteps ?_)
  | (with_reducible refine K_st 37 ?_); (first
   | refine W.storeE sz37.h rfl rfl rfl (zEnts ?_) rfl (And.intro rfl (Nat.le_of_ble_eq_true rfl)) wEnts ?_
   | refine W.storeE sz37.h rfl rfl rfl (zInts ?_) rfl (And.intro rfl (Nat.le_of_ble_eq_true rfl)) wInts ?_
   | refine W.storeE sz37.h rfl rfl rfl (zSets ?_) rfl (And.intro rfl (Nat.le_of_ble_eq_true rfl)) wSets ?_
   | refine W.storeE sz37.h rfl rfl rfl (zSteps ?_) rfl (And.intro rfl (Nat.le_of_ble_eq_true rfl)) wSteps ?_
   | refine W.storeE sz37.h rfl rfl rfl (zActs ?_) rfl (And.intro rfl (Nat.le_of_ble_eq_true rfl)) wActs ?_
   | refine W.storeE sz37.h rfl rfl rfl (zCtls ?_) rfl (And.intro rfl (Nat.le_of_ble_eq_true rfl)) wCtls ?_)
  | (with_reducible refine K_st 43 ?_); (first
   | refine W.storeE sz43.h rfl rfl rfl (zInts ?_) rfl (And.intro rfl (Nat.le_of_ble_eq_true rfl)) wInts ?_
   | refine W.storeE sz43.h rfl rfl rfl (zSets ?_) rfl (And.intro rfl (Nat.le_of_ble_eq_true rfl)) wSets ?_
   | refine W.storeE sz43.h rfl rfl rfl (zTabs ?_) rfl (And.intro rfl (Nat.le_of_ble_eq_true rfl)) wTabs ?_)
  | (with_reducible refine K_st 45 ?_); (first
   | refine W.storeE sz45.h rfl rfl rfl (zSteps ?_) rfl (And.intro rfl (Nat.le_of_ble_eq_true rfl)) wSteps ?_
   | refine W.storeE sz45.h rfl rfl rfl (zActs ?_) rfl (And.intro rfl (Nat.le_of_ble_eq_true rfl)) wActs ?_
   | refine W.storeE sz45.h rfl rfl rfl (zInts ?_) rfl (And.intro rfl (Nat.le_of_ble_eq_true rfl)) wInts ?_
   | refine W.storeE sz45.h rfl rfl rfl (zSets ?_) rfl (And.intro rfl (Nat.le_of_ble_eq_true rfl)) wSets ?_
   | refine W.storeE sz45.h rfl rfl rfl (zTabs ?_) rfl (And.intro rfl (Nat.le_of_ble_eq_true rfl)) wTabs ?_
   | refine W.storeE sz45.h rfl rfl rfl (zNodes ?_) rfl (And.intro rfl (Nat.le_of_ble_eq_true rfl)) wNodes ?_
   | refine W.storeE sz45.h rfl rfl rfl (zMixes ?_) rfl (And.intro rfl (Nat.le_of_ble_eq_true rfl)) wMixes ?_
   | refine W.storeE sz45.h rfl rfl rfl (zBools ?_) rfl (And.intro rfl (Nat.le_of_ble_eq_true rfl)) wBools ?_
   | refine W.storeE sz45.h rfl rfl rfl (zMat ?_) rfl (And.intro rfl (Nat.le_of_ble_eq_true rfl)) wMat ?_
   | refine W.storeE sz45.h rfl rfl rfl (zConfs ?_) rfl (And.intro rfl (Nat.le_of_ble_eq_true rfl)) wConfs ?_)
  | (with_reducible refine K_st 47 ?_); (first
   | refine W.storeE sz47.h rfl rfl rfl (zEnts ?_) rfl (And.intro rfl (Nat.le_of_ble_eq_true rfl)) wEnts ?_
   | refine W.storeE sz47.h rfl rfl rfl (zInts ?_) rfl (And.intro rfl (Nat.le_of_ble_eq_true rfl)) wInts ?_
   | refine W.storeE sz47.h rfl rfl rfl (zSets ?_) rfl (And.intro rfl (Nat.le_of_ble_eq_true rfl)) wSets ?_
   | refine W.storeE sz47.h rfl rfl rfl (zSteps ?_) rfl (And.intro rfl (Nat.le_of_ble_eq_true rfl)) wSteps ?_
   | refine W.storeE sz47.h rfl rfl rfl (zActs ?_) rfl (And.intro rfl (Nat.le_of_ble_eq_true rfl)) wActs ?_
   | refine W.storeE sz47.h rfl rfl rfl (zCtls ?_) rfl (And.intro rfl (Nat.le_of_ble_eq_true rfl)) wCtls ?_)
  | (with_reducible refine K_st 56 ?_); (first
   | refine W.storeE sz56.h rfl rfl rfl (zActs ?_) rfl (And.intro rfl (Nat.le_of_ble_eq_true rfl)) wActs ?_
   | refine W.storeE sz56.h rfl rfl rfl (zCtls ?_) rfl (And.intro rfl (Nat.le_of_ble_eq_true rfl)) wCtls ?_
   | refine W.storeE sz56.h rfl rfl rfl (zEnts ?_) rfl (And.intro rfl (Nat.le_of_ble_eq_true rfl)) wEnts ?_
   | refine W.storeE sz56.h rfl rfl rfl (zInts ?_) rfl (And.intro rfl (Nat.le_of_ble_eq_true rfl)) wInts ?_
   | refine W.storeE sz56.h rfl rfl rfl (zSets ?_) rfl (And.intro rfl (Nat.le_of_ble_eq_true rfl)) wSets ?_
   | refine W.storeE sz56.h rfl rfl rfl (zSteps ?_) rfl (And.intro rfl (Nat.le_of_ble_eq_true rfl)) wSteps ?_)
  | (with_reducible refine K_st 62 ?_); refine W.storeE sz62.h rfl rfl rfl (zEnts ?_) rfl (And.intro rfl (Nat.le_of_ble_eq_true rfl)) wEnts ?_
  | (with_reducible refine K_st 66 ?_); refine W.storeE sz66.h rfl rfl rfl (zActs ?_) rfl (And.intro rfl (Nat.le_of_ble_eq_true rfl)) wActs ?_
  | (with_reducible refine K_st 68 ?_); (first
   | refine W.storeE sz68.h rfl rfl rfl (zActs ?_) rfl (And.intro rfl (Nat.le_of_ble_eq_true rfl)) wActs ?_
   | refine W.storeE sz68.h rfl rfl rfl (zInts ?_) rfl (And.intro rfl (Nat.le_of_ble_eq_true rfl)) wInts ?_
   | refine W.storeE sz68.h rfl rfl rfl (zSteps ?_) rfl (And.intro rfl (Nat.le_of_ble_eq_true rfl)) wSteps ?_
   | refine W.storeE sz68.h rfl rfl rfl (zTabs ?_) rfl (And.intro rfl (Nat.le_of_ble_eq_true rfl)) wTabs ?_)
  | (with_reducible refine K_st 103 ?_); (first
   | refine W.storeE sz103.h rfl rfl rfl (zInts ?_) rfl (And.intro rfl (Nat.le_of_ble_eq_true rfl)) wInts ?_
   | refine W.storeE sz103.h rfl rfl rfl (zLinks ?_) rfl (And.intro rfl (Nat.le_of_ble_eq_true rfl)) wLinks ?_
   | refine W.storeE sz103.h rfl rfl rfl (zMat ?_) rfl (And.intro rfl (Nat.le_of_ble_eq_true rfl)) wMat ?_
   | refine W.storeE sz103.h rfl rfl rfl (zSets ?_) rfl (And.intro rfl (Nat.le_of_ble_eq_true rfl)) wSets ?_
   | refine W.storeE sz103.h rfl rfl rfl (zTabs ?_) rfl (And.intro rfl (Nat.le_of_ble_eq_true rfl)) wTabs ?_)
  | (with_reducible refine K_st 104 ?_); (first
   | refine W.storeE sz104.h rfl rfl rfl (zInts ?_) rfl (And.intro rfl (Nat.le_of_ble_eq_true rfl)) wInts ?_
   | refine W.storeE sz104.h rfl rfl rfl (zLinks ?_) rfl (And.intro rfl (Nat.le_of_ble_eq_true rfl)) wLinks ?_
   | refine W.storeE sz104.h rfl rfl rfl (zMat ?_) rfl (And.intro rfl (Nat.le_of_ble_eq_true rfl)) wMat ?_
   | refine W.storeE sz104.h rfl rfl rfl (zSets ?_) rfl (And.intro rfl (Nat.le_of_ble_eq_true rfl)) wSets ?_
   | refine W.storeE sz104.h rfl rfl rfl (zTabs ?_) rfl (And.intro rfl (Nat.le_of_ble_eq_true rfl)) wTabs ?_)
  | (with_reducible refine K_st 106 ?_); (first
   | refine W.storeE sz106.h rfl rfl rfl (zInts ?_) rfl (And.intro rfl (Nat.le_of_ble_eq_true rfl)) wInts ?_
   | refine W.storeE sz106.h rfl rfl rfl (zLinks ?_) rfl (And.intro rfl (Nat.le_of_ble_eq_true rfl)) wLinks ?_
   | refine W.storeE sz106.h rfl rfl rfl (zMat ?_) rfl (And.intro rfl (Nat.le_of_ble_eq_true rfl)) wMat ?_
   | refine W.storeE sz106.h rfl rfl rfl (zSets ?_) rfl (And.intro rfl (Nat.le_of_ble_eq_true rfl)) wSets ?_
   | refine W.storeE sz106.h rfl rfl rfl (zTabs ?_) rfl (And.intro rfl (Nat.le_of_ble_eq_true rfl)) wTabs ?_
   | refine W.storeE sz106.h rfl rfl rfl (zBools ?_) rfl (And.intro rfl (Nat.le_of_ble_eq_true rfl)) wBools ?_
   | refine W.storeE sz106.h rfl rfl rfl (zConfs ?_) rfl (And.intro rfl (Nat.le_of_ble_eq_true rfl)) wConfs ?_)
  | (with_reducible refine K_st 146 ?_); (first
   | refine W.storeE sz146.h rfl rfl rfl (zInts ?_) rfl (And.intro rfl (Nat.le_of_ble_eq_true rfl)) wInts ?_
   | refine W.storeE sz146.h rfl rfl rfl (zSets ?_) rfl (And.intro rfl (Nat.le_of_ble_eq_true rfl)) wSets ?_
   | refine W.storeE sz146.h rfl rfl rfl (zTabs ?_) rfl (And.intro rfl (Nat.le_of_ble_eq_true rfl)) wTabs ?_
   | refine W.storeE sz146.h rfl rfl rfl (zBools ?_) rfl (And.intro rfl (Nat.le_of_ble_eq_true rfl)) wBools ?_
   | refine W.storeE sz146.h rfl rfl rfl (zMat ?_) rfl (And.intro rfl (Nat.le_of_ble_eq_true rfl)) wMat ?_)
  | (with_reducible refine K_st 158 ?_); (first
   | refine W.storeE sz158.h rfl rfl rfl (zSteps ?_) rfl (And.intro rfl (Nat.le_of_ble_eq_true rfl)) wSteps ?_
   | refine W.storeE sz158.h rfl rfl rfl (zConfs ?_) rfl (And.intro rfl (Nat.le_of_ble_eq_true rfl)) wConfs ?_
   | refine W.storeE sz158.h rfl rfl rfl (zMixes ?_) rfl (And.intro rfl (Nat.le_of_ble_eq_true rfl)) wMixes ?_))
 exact q
 exact r) : P := h q r
theorem x2ix {P Q R : Prop} (q : Q) (r : R) (h : Q → R → P := by
 intro q r
 (first
  | (with_reducible refine K_ix 22 ?_); (first
   | refine W.idx rfl el22 rfl rfl (gSetsN ?_) ?_
   | refine W.idx rfl el22 rfl rfl (gSets ?_) ?_
   | refine W.idxF rfl el22 rfl rfl rfl (gSets ?_) ?_
   | refine W.idxO rfl el22 rfl rfl rfl ?_ ?_)
  | (with_reducible refine K_ix 23 ?_); (first
   | refine W.idx rfl el23 rfl rfl (gLinksN ?_) ?_
   | refine W.idx rfl el23 rfl rfl (gLinks ?_) ?_
   | refine W.idxF rfl el23 rfl rfl rfl (gLinks ?_) ?_
   | refine W.idxO rfl el23 rfl rfl rfl ?_ ?_)
  | (with_reducible refine K_ix 29 ?_); (first
   | refine W.idx rfl el29 rfl rfl (gIntsN ?_) ?_
   | refine W.idx rfl el29 rfl rfl (gInts ?_) ?_
   | refine W.idxF rfl el29 rfl rfl rfl (gInts ?_) ?_
   | refine W.idxO rfl el29 rfl rfl rfl ?_ ?_)
  | (with_reducible refine K_ix 30 ?_); (first
   | refine W.idx rfl el30 rfl rfl (gTabsN ?_) ?_
   | refine W.idx rfl el30 rfl rfl (gTabs ?_) ?_
   | refine W.idxF rfl el30 rfl rfl rfl (gTabs ?_) ?_
   | refine W.idxO rfl el30 rfl rfl rfl ?_ ?_)
  | (with_reducible refine K_ix 33 ?_); (first
   | refine W.idx rfl el33 rfl rfl (gStepsN ?_) ?_
   | refine W.idx rfl el33 rfl rfl (gSteps ?_) ?_
   | refine W.idxF rfl el33 rfl rfl rfl (gSteps ?_) ?_
   | refine W.idxO rfl el33 rfl rfl rfl ?_ ?_)
  | (with_reducible refine K_ix 34 ?_); (first
   | refine W.idx rfl el34 rfl rfl (gEntsN ?_) ?_
   | refine W.idx rfl el34 rfl rfl (gEnts ?_) ?_
   | refine W.idxF rfl el34 rfl rfl rfl (gEnts ?_) ?_
   | refine W.idxO rfl el34 rfl rfl rfl ?_ ?_)
  | (with_reducible refine K_ix 43 ?_); (first
   | refine W.idx rfl el43 rfl rfl (gSetsN ?_) ?_
   | refine W.idx rfl el43 rfl rfl (gSets ?_) ?_
   | refine W.idxF rfl el43 rfl rfl rfl (gSets ?_) ?_
   | refine W.idxO rfl el43 rfl rfl rfl ?_ ?_)
  | (with_reducible refine K_ix 58 ?_); (first
   | refine W.idx rfl el58 rfl rfl (gActsN ?_) ?_
   | refine W.idx rfl el58 rfl rfl (gActs ?_) ?_
   | refine W.idxF rfl el58 rfl rfl rfl (gActs ?_) ?_
   | refine W.idxO rfl el58 rfl rfl rfl ?_ ?_)
  | (with_reducible refine K_ix 104 ?_); (first
   | refine W.idx rfl el104 rfl rfl (gMatN ?_) ?_
   | refine W.idx rfl el104 rfl rfl (gMat ?_) ?_
   | refine W.idxF rfl el104 rfl rfl rfl (gMat ?_) ?_
   | refine W.idxO rfl el104 rfl rfl rfl ?_ ?_)
  | (with_reducible refine K_ix 112 ?_); (first
   | refine W.idx rfl el112 rfl rfl (gNodesN ?_) ?_
   | refine W.idx rfl el112 rfl rfl (gNodes ?_) ?_
   | refine W.idxF rfl el112 rfl rfl rfl (gNodes ?_) ?_
   | refine W.idxO rfl el112 rfl rfl rfl ?_ ?_)
  | (with_reducible refine K_ix 144 ?_); (first
   | refine W.idx rfl el144 rfl rfl (gBoolsN ?_) ?_
   | refine W.idx rfl el144 rfl rfl (gBools ?_) ?_
   | refine W.idxF rfl el144 rfl rfl rfl (gBools ?_) ?_
   | refine W.idxO rfl el144 rfl rfl rfl ?_ ?_)
  | (with_reducible refine K_ix 147 ?_); (first
   | refine W.idx rfl el147 rfl rfl (gMixesN ?_) ?_
   | refine W.idx rfl el147 rfl rfl (gMixes ?_) ?_
   | refine W.idxF rfl el147 rfl rfl rfl (gMixes ?_) ?_
   | refine W.idxO rfl el147 rfl rfl rfl ?_ ?_)
  | (with_reducible refine K_ix 172 ?_); (first
   | refine W.idx rfl el172 rfl rfl (gConfsN ?_) ?_
   | refine W.idx rfl el172 rfl rfl (gConfs ?_) ?_
   | refine W.idxF rfl el172 rfl rfl rfl (gConfs ?_) ?_
   | refine W.idxO rfl el172 rfl rfl rfl ?_ ?_))
 exact q
 exact r) : P := h q r
theorem x2bu {P Q R : Prop} (q : Q) (r : R) (h : Q → R → P := by
 intro q r
 (first
  | (with_reducible refine K_bu .append 22 ?_); (first
   | refine W.appO _ rfl m64 ef22 is22 rfl rfl rfl rfl ?_ sSets ?_
   | refine W.appO _ rfl m64 ef22 is22 rfl rfl rfl rfl ?_ aSets ?_
   | refine W.appO _ rfl m64 ef22 is22 rfl rfl rfl rfl ?_ rfl ?_
   | refine W.appZ _ rfl m64 ef22 is22 rfl rfl rfl ?_ oSets ?_
   | refine W.appZ _ rfl m64 ef22 is22 rfl rfl rfl ?_ rfl ?_)
  | (with_reducible refine K_bu .append 29 ?_); (first
   | refine W.appO _ rfl m64 ef29 is29 rfl rfl rfl rfl ?_ sInts ?_
   | refine W.appO _ rfl m64 ef29 is29 rfl rfl rfl rfl ?_ aInts ?_
   | refine W.appO _ rfl m64 ef29 is29 rfl rfl rfl rfl ?_ rfl ?_
   | refine W.appZ _ rfl m64 ef29 is29 rfl rfl rfl ?_ oInts ?_
   | refine W.appZ _ rfl m64 ef29 is29 rfl rfl rfl ?_ rfl ?_)
  | (with_reducible refine K_bu .append 30 ?_); (first
   | refine W.appO _ rfl m64 ef30 is30 rfl rfl rfl rfl ?_ sTabsC ?_
   | refine W.appO _ rfl m64 ef30 is30 rfl rfl rfl rfl ?_ aTabs ?_
   | refine W.appO _ rfl m64 ef30 is30 rfl rfl rfl rfl ?_ rfl ?_
   | refine W.appZ _ rfl m64 ef30 is30 rfl rfl rfl ?_ rfl ?_)
  | (with_reducible refine K_bu .append 33 ?_); (first
   | refine W.appO _ rfl m64 ef33 is33 rfl rfl rfl rfl ?_ sStepsC ?_
   | refine W.appO _ rfl m64 ef33 is33 rfl rfl rfl rfl ?_ aSteps ?_
   | refine W.appO _ rfl m64 ef33 is33 rfl rfl rfl rfl ?_ rfl ?_
   | refine W.appZ _ rfl m64 ef33 is33 rfl rfl rfl ?_ rfl ?_)
  | (with_reducible refine K_bu .append 34 ?_); (first
   | refine W.appO _ rfl m64 ef34 is34 rfl rfl rfl rfl ?_ sEntsC ?_
   | refine W.appO _ rfl m64 ef34 is34 rfl rfl rfl rfl ?_ aEnts ?_
   | refine W.appO _ rfl m64 ef34 is34 rfl rfl rfl rfl ?_ rfl ?_
   | refine W.appZ _ rfl m64 ef34 is34 rfl rfl rfl ?_ rfl ?_)
  | (with_reducible refine K_bu .append 35 ?_); (first
   | refine W.appO _ rfl m64 ef35 is35 rfl rfl rfl rfl ?_ sCtlsC ?_
   | refine W.appO _ rfl m64 ef35 is35 rfl rfl rfl rfl ?_ aCtls ?_
   | refine W.appO _ rfl m64 ef35 is35 rfl rfl rfl rfl ?_ rfl ?_
   | refine W.appZ _ rfl m64 ef35 is35 rfl rfl rfl ?_ rfl ?_)
  | (with_reducible refine K_bu .append 43 ?_); (first
   | refine W.appO _ rfl m64 ef43 is43 rfl rfl rfl rfl ?_ sSets ?_
   | refine W.appO _ rfl m64 ef43 is43 rfl rfl rfl rfl ?_ aSets ?_
   | refine W.appO _ rfl m64 ef43 is43 rfl rfl rfl rfl ?_ rfl ?_
   | refine W.appZ _ rfl m64 ef43 is43 rfl rfl rfl ?_ oSets ?_
   | refine W.appZ _ rfl m64 ef43 is43 rfl rfl rfl ?_ rfl ?_)
  | (with_reducible refine K_bu .append 58 ?_); (first
   | refine W.appO _ rfl m64 ef58 is58 rfl rfl rfl rfl ?_ sActsC ?_
   | refine W.appO _ rfl m64 ef58 is58 rfl rfl rfl rfl ?_ aActs ?_
   | refine W.appO _ rfl m64 ef58 is58 rfl rfl rfl rfl ?_ rfl ?_
   | refine W.appZ _ rfl m64 ef58 is58 rfl rfl rfl ?_ rfl ?_)
  | (with_reducible refine K_bu .append 104 ?_); (first
   | refine W.appO _ rfl m64 ef104 is104 rfl rfl rfl rfl ?_ sMat ?_
   | refine W.appO _ rfl m64 ef104 is104 rfl rfl rfl rfl ?_ aMat ?_
   | refine W.appO _ rfl m64 ef104 is104 rfl rfl rfl rfl ?_ rfl ?_
   | refine W.appZ _ rfl m64 ef104 is104 rfl rfl rfl ?_ oMat ?_
   | refine W.appZ _ rfl m64 ef104 is104 rfl rfl rfl ?_ rfl ?_)
  | (with_reducible refine K_bu .append 112 ?_); (first
   | refine W.appO _ rfl m64 ef112 is112 rfl rfl rfl rfl ?_ sNodesC ?_
   | refine W.appO _ rfl m64 ef112 is112 rfl rfl rfl rfl ?_ aNodes ?_
   | refine W.appO _ rfl m64 ef112 is112 rfl rfl rfl rfl ?_ rfl ?_
   | refine W.appZ _ rfl m64 ef112 is112 rfl rfl rfl ?_ rfl ?_)
  | (with_reducible refine K_bu .append 144 ?_); (first
   | refine W.appO _ rfl m64 ef144 is144 rfl rfl rfl rfl ?_ sBools ?_
   | refine W.appO _ rfl m64 ef144 is144 rfl rfl rfl rfl ?_ aBools ?_
   | refine W.appO _ rfl m64 ef144 is144 rfl rfl rfl rfl ?_ rfl ?_
   | refine W.appZ _ rfl m64 ef144 is144 rfl rfl rfl ?_ oBools ?_
   | refine W.appZ _ rfl m64 ef144 is144 rfl rfl rfl ?_ rfl ?_)
  | (with_reducible refine K_bu .append 147 ?_); (first
   | refine W.appO _ rfl m64 ef147 is147 rfl rfl rfl rfl ?_ sMixesC ?_
   | refine W.appO _ rfl m64 ef147 is147 rfl rfl rfl rfl ?_ aMixes ?_
   | refine W.appO _ rfl m64 ef147 is147 rfl rfl rfl rfl ?_ rfl ?_
   | refine W.appZ _ rfl m64 ef147 is147 rfl rfl rfl ?_ rfl ?_)
  | (with_reducible refine K_bu .append 172 ?_); (first
   | refine W.appO _ rfl m64 ef172 is172 rfl rfl rfl rfl ?_ sConfsC ?_
   | refine W.appO _ rfl m64 ef172 is172 rfl rfl rfl rfl ?_ aConfs ?_
   | refine W.appO _ rfl m64 ef172 is172 rfl rfl rfl rfl ?_ rfl ?_
   | refine W.appZ _ rfl m64 ef172 is172 rfl rfl rfl ?_ rfl ?_))
 exact q
 exact r) : P := h q r
theorem wA {P Q : Prop} (q : Q) (h : Q → P := by
 intro q
 (first
 | (repeat1' ((with_reducible refine W_at ?_); (first
  | ((with_reducible refine K_nl ?_); (first
   | refine W.nil ?_
   | refine W.nilD ?_ ?_; (focus kernel_rfl)))
  | ((with_reducible refine K_mv ?_); refine W.move rfl rfl ?_)
  | ((with_reducible refine K_ld _ ?_); (first
   | refine W.ld rfl rfl rfl rfl ?_
   | (with_reducible refine K_la 3 ?_); refine W.la (n := 3) (cs2 := [_, _, _]) rfl rfl rfl rfl ?_
   | (with_reducible refine K_la 4 ?_); refine W.la (n := 4) (cs2 := [_, _, _, _]) rfl rfl rfl rfl ?_
   | (with_reducible refine K_la 6 ?_); refine W.la (n := 6) (cs2 := [_, _, _, _, _, _]) rfl rfl rfl rfl ?_
   | (with_reducible refine K_la 7 ?_); refine W.la (n := 7) (cs2 := [_, _, _, _, _, _, _]) rfl rfl rfl rfl ?_
   | (with_reducible refine K_la 9 ?_); refine W.la (n := 9) (cs2 := [_, _, _, _, _, _, _, _, _]) rfl rfl rfl rfl ?_
   | (with_reducible refine K_la 10 ?_); refine W.la (n := 10) (cs2 := [_, _, _, _, _, _, _, _, _, _]) rfl rfl rfl rfl ?_))
  | ((with_reducible refine K_fa _ _ ?_); refine W.fa rfl rfl rfl ?_)
  | ((with_reducible refine K_bn _ _ ?_); (first
   | (with_reducible refine K_bn .add _ ?_); refine W.addI rfl rfl rfl ?_ ?_; (focus (clear q; omega))
   | (with_reducible refine K_bn .sub _ ?_); refine W.subI rfl rfl rfl ?_ ?_; (focus (clear q; omega))
   | (with_reducible refine K_bn .mul _ ?_); refine W.mulI rfl rfl rfl ?_ ?_; (focus (clear q; omega))
   | (with_reducible refine K_bn .neq 4 ?_); refine W.neB rfl ib4 rfl rfl ?_
   | (with_reducible refine K_bn .neq _ ?_); refine W.sne rfl Tryz.underlying9 rfl rfl ?_
   | refine W.bin rfl rfl rfl rfl ?_))
  | ((with_reducible refine K_st _ ?_); (first
   | refine W.st (cs2 := [_]) rfl rfl rfl rfl ?_
   | refine W.st (cs2 := [_, _, _]) rfl rfl rfl rfl ?_
   | refine W.st (cs2 := [_, _, _, _]) rfl rfl rfl rfl ?_
   | refine W.st (cs2 := [_, _, _, _, _, _]) rfl rfl rfl rfl ?_
   | refine W.st (cs2 := [_, _, _, _, _, _, _]) rfl rfl rfl rfl ?_
   | refine W.st (cs2 := [_, _, _, _, _, _, _, _, _]) rfl rfl rfl rfl ?_
   | refine W.st (cs2 := [_, _, _, _, _, _, _, _, _, _]) rfl rfl rfl rfl ?_
   | refine W.st (cs2 := [_, _, _, _, _, _, _, _, _, _, _, _, _, _]) rfl rfl rfl rfl ?_))
  | ((with_reducible refine K_as ?_); refine W.assign rfl rfl ?_)
  | ((with_reducible refine K_g ?_); (first
   | refine W.gT rfl rfl ?_
   | refine W.gF rfl rfl rfl rfl ?_
   | refine W.gU rfl rfl rfl ?_))
  | ((with_reducible refine K_bx _ ?_); (first
   | (with_reducible refine K_bx 3 ?_); refine W.box _ rfl m64 rfl ?_
   | (with_reducible refine K_bx 25 ?_); refine W.box _ rfl m64 rfl ?_
   | (with_reducible refine K_bx 27 ?_); refine W.box _ rfl m64 rfl ?_
   | (with_reducible refine K_bx 32 ?_); refine W.box _ rfl m64 rfl ?_
   | (with_reducible refine K_bx 45 ?_); refine W.box _ rfl m64 rfl ?_
   | (with_reducible refine K_bx 47 ?_); refine W.box _ rfl m64 rfl ?_
   | (with_reducible refine K_bx 56 ?_); refine W.box _ rfl m64 rfl ?_
   | (with_reducible refine K_bx 62 ?_); refine W.box _ rfl m64 rfl ?_
   | (with_reducible refine K_bx 68 ?_); refine W.box _ rfl m64 rfl ?_
   | (with_reducible refine K_bx 90 ?_); refine W.box _ rfl m64 rfl ?_
   | (with_reducible refine K_bx 106 ?_); refine W.box _ rfl m64 rfl ?_))
  | ((with_reducible refine K_ex ?_); refine W.extract rfl rfl rfl ?_)
  | ((with_reducible refine K_al _ ?_); (first
   | (with_reducible refine K_al 32 ?_); refine W.alloc _ rfl m64 zr32 ?_
   | (with_reducible refine K_al 37 ?_); refine W.alloc _ rfl m64 zr37 ?_
   | (with_reducible refine K_al 45 ?_); refine W.alloc _ rfl m64 zr45 ?_
   | (with_reducible refine K_al 47 ?_); refine W.alloc _ rfl m64 zr47 ?_
   | (with_reducible refine K_al 56 ?_); refine W.alloc _ rfl m64 zr56 ?_
   | (with_reducible refine K_al 62 ?_); refine W.alloc _ rfl m64 zr62 ?_
   | (with_reducible refine K_al 66 ?_); refine W.alloc _ rfl m64 zr66 ?_
   | (with_reducible refine K_al 68 ?_); refine W.alloc _ rfl m64 zr68 ?_
   | (with_reducible refine K_al 103 ?_); refine W.alloc _ rfl m64 zr103 ?_
   | (with_reducible refine K_al 106 ?_); refine W.alloc _ rfl m64 zr106 ?_
   | (with_reducible refine K_al 138 ?_); refine W.alloc _ rfl m64 zr138 ?_
   | (with_reducible refine K_al 158 ?_); refine W.alloc _ rfl m64 zr158 ?_))
  | ((with_reducible refine K_un _ ?_); (first
   | (with_reducible refine K_un .not ?_); (first
    | refine W.notL (b' := true) rfl rfl rfl ?_
    | refine W.notL (b' := false) rfl rfl rfl ?_
    | refine W.notP rfl rfl ?_
    | refine W.not rfl rfl ?_)
   | (with_reducible refine K_un .xor ?_); refine W.compl rfl rfl ?_))
  | ((with_reducible refine K_pk ?_); (first
   | refine W.pickT rfl rfl rfl ?_
   | refine W.pickF rfl rfl rfl ?_))
  | ((with_reducible refine K_bu _ _ ?_); (first
   | (with_reducible refine K_bu .min 3 ?_); refine W.minI rfl rfl rfl rfl ?_
   | (with_reducible refine K_bu .max 3 ?_); refine W.maxI rfl rfl rfl rfl ?_
   | (with_reducible refine K_bu .len 9 ?_); refine W.slen rfl Tryz.underlying9 rfl ?_
   | (with_reducible refine K_bu .len 22 ?_); (first
    | refine W.len rfl el22 rfl rfl lSets ?_
    | refine W.len rfl el22 rfl rfl rfl ?_)
   | (with_reducible refine K_bu .len 23 ?_); (first
    | refine W.len rfl el23 rfl rfl lLinks ?_
    | refine W.len rfl el23 rfl rfl rfl ?_)
   | (with_reducible refine K_bu .len 29 ?_); (first
    | refine W.len rfl el29 rfl rfl lInts ?_
    | refine W.len rfl el29 rfl rfl rfl ?_)
   | (with_reducible refine K_bu .len 30 ?_); (first
    | refine W.len rfl el30 rfl rfl lTabs ?_
    | refine W.len rfl el30 rfl rfl rfl ?_)
   | (with_reducible refine K_bu .len 33 ?_); (first
    | refine W.len rfl el33 rfl rfl lSteps ?_
    | refine W.len rfl el33 rfl rfl rfl ?_)
   | (with_reducible refine K_bu .len 34 ?_); (first
    | refine W.len rfl el34 rfl rfl lEnts ?_
    | refine W.len rfl el34 rfl rfl rfl ?_)
   | (with_reducible refine K_bu .len 43 ?_); (first
    | refine W.len rfl el43 rfl rfl lSets ?_
    | refine W.len rfl el43 rfl rfl rfl ?_)
   | (with_reducible refine K_bu .len 58 ?_); (first
    | refine W.len rfl el58 rfl rfl lActs ?_
    | refine W.len rfl el58 rfl rfl rfl ?_)
   | (with_reducible refine K_bu .len 104 ?_); (first
    | refine W.len rfl el104 rfl rfl lMat ?_
    | refine W.len rfl el104 rfl rfl rfl ?_)
   | (with_reducible refine K_bu .len 112 ?_); (first
    | refine W.len rfl el112 rfl rfl lNodes ?_
    | refine W.len rfl el112 rfl rfl rfl ?_)
   | (with_reducible refine K_bu .len 144 ?_); (first
    | refine W.len rfl el144 rfl rfl lBools ?_
    | refine W.len rfl el144 rfl rfl rfl ?_)
   | (with_reducible refine K_bu .len 147 ?_); (first
    | refine W.len rfl el147 rfl rfl lMixes ?_
    | refine W.len rfl el147 rfl rfl rfl ?_)
   | (with_reducible refine K_bu .len 172 ?_); (first
    | refine W.len rfl el172 rfl rfl lConfs ?_
    | refine W.len rfl el172 rfl rfl rfl ?_)))
  | ((with_reducible refine K_cv _ _ ?_); (first
   | (with_reducible refine K_cv 2 131 ?_); (first
    | refine W.conv rfl ik2 ik131 rfl (wrap_u64 ?_) ?_; (focus (clear q; omega))
    | refine W.conv rfl ik2 ik131 rfl rfl ?_)
   | (with_reducible refine K_cv 3 131 ?_); (first
    | refine W.conv rfl ik3 ik131 rfl (wrap_u64 ?_) ?_; (focus (clear q; omega))
    | refine W.conv rfl ik3 ik131 rfl rfl ?_)
   | (with_reducible refine K_cv 5 2 ?_); (first
    | refine W.conv rfl ik5 ik2 rfl (wrapI ?_) ?_; (focus (clear q; omega))
    | refine W.conv rfl ik5 ik2 rfl rfl ?_)
   | (with_reducible refine K_cv 5 3 ?_); (first
    | refine W.conv rfl ik5 ik3 rfl (wrapI ?_) ?_; (focus (clear q; omega))
    | refine W.conv rfl ik5 ik3 rfl rfl ?_)
   | (with_reducible refine K_cv 5 131 ?_); (first
    | refine W.conv rfl ik5 ik131 rfl (wrap_u64 ?_) ?_; (focus (clear q; omega))
    | refine W.conv rfl ik5 ik131 rfl rfl ?_)
   | (with_reducible refine K_cv 5 133 ?_); (first
    | refine W.conv rfl ik5 ik133 rfl (wrap_u32 ?_) ?_; (focus (clear q; omega))
    | refine W.conv rfl ik5 ik133 rfl rfl ?_)
   | (with_reducible refine K_cv 22 9 ?_); (first
    | refine W.strB rfl Tryz.underlying22 Tryz.underlying5 Tryz.underlying9 rfl rfl nums_sets ?_
    | refine W.strB rfl Tryz.underlying22 Tryz.underlying5 Tryz.underlying9 rfl rfl rfl ?_)
   | (with_reducible refine K_cv 28 3 ?_); (first
    | refine W.conv rfl ik28 ik3 rfl (wrapI ?_) ?_; (focus (clear q; omega))
    | refine W.conv rfl ik28 ik3 rfl rfl ?_)
   | (with_reducible refine K_cv 131 2 ?_); (first
    | refine W.conv rfl ik131 ik2 rfl (wrapI ?_) ?_; (focus (clear q; omega))
    | refine W.conv rfl ik131 ik2 rfl rfl ?_)
   | (with_reducible refine K_cv 131 3 ?_); (first
    | refine W.conv rfl ik131 ik3 rfl (wrapI ?_) ?_; (focus (clear q; omega))
    | refine W.conv rfl ik131 ik3 rfl rfl ?_)
   | (with_reducible refine K_cv 131 5 ?_); (first
    | refine W.conv rfl ik131 ik5 rfl (wr_u8 ?_) ?_; (focus (clear q; omega))
    | refine W.conv rfl ik131 ik5 rfl rfl ?_)
   | (with_reducible refine K_cv 133 5 ?_); (first
    | refine W.conv rfl ik133 ik5 rfl (wr_u8 ?_) ?_; (focus (clear q; omega))
    | refine W.conv rfl ik133 ik5 rfl rfl ?_)
   | (with_reducible refine K_cv 146 3 ?_); (first
    | refine W.conv rfl ik146 ik3 rfl (wrapI ?_) ?_; (focus (clear q; omega))
    | refine W.conv rfl ik146 ik3 rfl rfl ?_)))
  | ((with_reducible refine K_bd _ ?_); (first
   | (with_reducible refine K_bd 27 ?_); refine W.build (cs2 := [_, _, _, _, _, _]) rfl pl27 rfl rfl ?_
   | (with_reducible refine K_bd 32 ?_); refine W.build (cs2 := [_, _, _, _]) rfl pl32 rfl rfl ?_
   | (with_reducible refine K_bd 37 ?_); refine W.build (cs2 := [_, _, _, _, _, _, _, _, _]) rfl pl37 rfl rfl ?_
   | (with_reducible refine K_bd 45 ?_); refine W.build (cs2 := [_, _, _]) rfl pl45 rfl rfl ?_
   | (with_reducible refine K_bd 47 ?_); refine W.build (cs2 := [_, _, _, _, _, _, _, _, _]) rfl pl47 rfl rfl ?_
   | (with_reducible refine K_bd 56 ?_); refine W.build (cs2 := [_, _, _, _, _, _, _]) rfl pl56 rfl rfl ?_
   | (with_reducible refine K_bd 62 ?_); refine W.build (cs2 := [_, _, _, _]) rfl pl62 rfl rfl ?_
   | (with_reducible refine K_bd 64 ?_); refine W.build (cs2 := [_, _, _]) rfl pl64 rfl rfl ?_
   | (with_reducible refine K_bd 66 ?_); refine W.build (cs2 := [_, _, _, _, _, _, _, _, _, _]) rfl pl66 rfl rfl ?_
   | (with_reducible refine K_bd 68 ?_); refine W.build (cs2 := [_, _, _]) rfl pl68 rfl rfl ?_
   | (with_reducible refine K_bd 90 ?_); refine W.build (cs2 := [_, _, _, _, _, _, _, _, _, _, _, _, _, _]) rfl pl90 rfl rfl ?_
   | (with_reducible refine K_bd 106 ?_); refine W.build (cs2 := [_, _, _, _, _, _]) rfl pl106 rfl rfl ?_
   | (with_reducible refine K_bd 150 ?_); refine W.build (cs2 := [_, _, _, _, _, _, _]) rfl pl150 rfl rfl ?_
   | (with_reducible refine K_bd 158 ?_); refine W.build (cs2 := [_, _, _]) rfl pl158 rfl rfl ?_))
  | ((with_reducible refine K_bs _ ?_); (first
   | (with_reducible refine K_bs 22 ?_); (first
    | refine W.bs (rows := [[_]]) _ rfl m64 ef22 rfl rfl rfl ?_
    | refine W.bs (rows := [[_], [_], [_], [_]]) _ rfl m64 ef22 rfl rfl rfl ?_)
   | (with_reducible refine K_bs 29 ?_); (first
    | refine W.bs (rows := [[_]]) _ rfl m64 ef29 rfl rfl rfl ?_
    | refine W.bs (rows := []) _ rfl m64 ef29 rfl rfl rfl ?_)
   | (with_reducible refine K_bs 30 ?_); refine W.bs (rows := [[_, _, _, _, _, _]]) _ rfl m64 ef30 rfl rfl rfl ?_
   | (with_reducible refine K_bs 33 ?_); (first
    | refine W.bs (rows := [[_, _, _], [_, _, _]]) _ rfl m64 ef33 rfl rfl rfl ?_
    | refine W.bs (rows := []) _ rfl m64 ef33 rfl rfl rfl ?_
    | refine W.bs (rows := [[_, _, _]]) _ rfl m64 ef33 rfl rfl rfl ?_)
   | (with_reducible refine K_bs 34 ?_); (first
    | refine W.bs (rows := [[_, _, _, _]]) _ rfl m64 ef34 rfl rfl rfl ?_
    | refine W.bs (rows := [[_, _, _, _], [_, _, _, _], [_, _, _, _], [_, _, _, _]]) _ rfl m64 ef34 rfl rfl rfl ?_
    | refine W.bs (rows := [[_, _, _, _], [_, _, _, _]]) _ rfl m64 ef34 rfl rfl rfl ?_)
   | (with_reducible refine K_bs 35 ?_); refine W.bs (rows := [[_, _, _, _, _, _, _, _, _]]) _ rfl m64 ef35 rfl rfl rfl ?_
   | (with_reducible refine K_bs 43 ?_); (first
    | refine W.bs (rows := [[_]]) _ rfl m64 ef43 rfl rfl rfl ?_
    | refine W.bs (rows := []) _ rfl m64 ef43 rfl rfl rfl ?_)
   | (with_reducible refine K_bs 58 ?_); refine W.bs (rows := [[_, _, _, _, _, _, _, _, _, _]]) _ rfl m64 ef58 rfl rfl rfl ?_
   | (with_reducible refine K_bs 104 ?_); refine W.bs (rows := [[_]]) _ rfl m64 ef104 rfl rfl rfl ?_
   | (with_reducible refine K_bs 112 ?_); refine W.bs (rows := [[_, _, _, _, _, _, _]]) _ rfl m64 ef112 rfl rfl rfl ?_
   | (with_reducible refine K_bs 144 ?_); refine W.bs (rows := [[_]]) _ rfl m64 ef144 rfl rfl rfl ?_
   | (with_reducible refine K_bs 147 ?_); refine W.bs (rows := [[_, _, _]]) _ rfl m64 ef147 rfl rfl rfl ?_
   | (with_reducible refine K_bs 172 ?_); refine W.bs (rows := [[_, _, _]]) _ rfl m64 ef172 rfl rfl rfl ?_))
  | ((with_reducible refine K_nc ?_); refine W.nilCheck rfl rfl rfl ?_))))
 | (repeat1' (with_reducible (first | refine JL.seq ?_ | refine JL.skip ?_ | refine JL.exit ?_ | refine JL.ret ?_ | refine JL.nil ?_ | refine outOf_normal ?_ | refine outOf_same ?_ | refine outOf_other rfl ?_ | refine outOf_ret ?_ | refine thenL_normal ?_ | refine thenL_exit ?_ | refine thenL_ret ?_ | refine roundOf_exit ?_ | refine roundOf_ret ?_)))
 | (with_reducible refine C_at ?_); (first | refine JL.condT rfl ?_ | refine JL.condF rfl ?_)
 | (with_reducible refine rg ?_ ?_); (focus exact rfl))
 exact q) : P := h q
theorem wB {P Q R : Prop} (q : Q) (r : R) (h : Q → R → P := by
 intro q r
 (with_reducible refine W_at ?_)
 (first
  | ((with_reducible refine K_ld _ ?_); refine x2ld ?_ ?_)
  | ((with_reducible refine K_bn _ _ ?_); refine x2bn ?_ ?_)
  | ((with_reducible refine K_st _ ?_); refine x2st ?_ ?_)
  | ((with_reducible refine K_sl _ ?_); (first
   | (with_reducible refine K_sl 9 ?_); (first
    | refine W.sslH rfl Tryz.underlying9 rfl rfl ?_ ?_
    | refine W.sslL rfl Tryz.underlying9 rfl rfl ?_ ?_
    | refine W.sslLH rfl Tryz.underlying9 rfl rfl rfl ?_ ?_)
   | (with_reducible refine K_sl 29 ?_); refine W.slice rfl el29 rfl rfl rfl ?_ nInts ?_))
  | ((with_reducible refine K_ix _ ?_); refine x2ix ?_ ?_)
  | ((with_reducible refine K_bu _ _ ?_); refine x2bu ?_ ?_)
  | ((with_reducible refine K_in _ ?_); (with_reducible refine K_in 9 ?_); (first
   | refine W.sidxN rfl Tryz.underlying9 rfl rfl ?_ ?_
   | refine W.sidx rfl Tryz.underlying9 rfl rfl ?_ ?_))
  | ((with_reducible refine K_mk _ ?_); (with_reducible refine K_mk 43 ?_); refine W.make _ rfl m64 ef43 ns146 rfl rfl rfl ?_ rSets ?_))
 exact q
 exact r) : P := h q r
theorem wC {P Q R : Prop} (q : Q) (r : R) (h : Q → R → P := by
 intro q r
 (first
 | (with_reducible refine C_at ?_); (first | refine JL.condN rfl ?_ ?_ | refine JL.condP rfl ?_ ?_ | refine JL.cond rfl ?_ ?_)
 | (with_reducible refine W_at ?_); (with_reducible refine K_g ?_); (first | refine W.gSN rfl rfl ?_ ?_ | refine W.gS rfl rfl ?_ ?_ | refine W.gSB rfl rfl ?_ ?_))
 exact q
 exact r) : P := h q r
theorem kA {P : Prop} (h : P := by
 (first
 | (with_reducible (first | exact chkT_nil | exact chkB_nil | exact avTo_dead | exact avTo_un | exact cellsTo_nl | exact cellTo_same | exact cellTo_zz))
 | (with_reducible refine avTo_tup ?_); (focus rfl)
 | (with_reducible refine CS_at ?_); exact cellsTo_same rfl
 | (with_reducible refine CE_at ?_); (first | exact cellTo_ow rfl | exact cellTo_pt rfl)
 | (with_reducible rfl)
 | (refine ND.mk ?_; kernel_rfl))) : P := h
theorem kB {P Q : Prop} (q : Q) (h : Q → P := by
 intro q
 (first
 | (with_reducible (first | refine chkB_none ?_ | refine avTo_w ?_ | refine boxTo_stw ?_ | refine boxTo_slw ?_ | refine boxTo_fzw ?_))
 | (with_reducible refine T_at ?_); refine chkT_skip rfl ?_
 | (with_reducible refine B_at ?_); refine chkB_skip rfl ?_
 | (with_reducible refine CE_at ?_); (first | refine cellTo_int ?_ | refine cellTo_bool ?_ | refine cellTo_str ?_ | refine cellTo_sl ?_ | refine cellTo_zd ?_ | refine cellTo_fz rfl ?_))
 exact q) : P := h q
theorem kC {P Q R : Prop} (q : Q) (r : R) (h : Q → R → P := by
 intro q r
 (first
 | (with_reducible refine T_at ?_); refine chkT_cons rfl ?_ rfl ?_
 | (with_reducible refine B_at ?_); refine chkB_cons rfl ?_ rfl rfl ?_
 | (with_reducible refine cellsTo_cn ?_ ?_)
 | (with_reducible refine CS_at ?_); refine cellsTo_cn ?_ ?_)
 exact q
 exact r) : P := h q r
theorem kD {P : Prop} (h : P := by
 (with_reducible refine CE_at ?_)
 exact cellTo_rn rfl) : P := h
theorem oA {P : Prop} (h : P := by
 (first
 | exact OutVs.nil
 | exact OutCs.nil
 | with_reducible exact OutC.d rfl
 | exact OutC.zz
 | with_reducible rfl)) : P := h
theorem oB {P Q : Prop} (q : Q) (h : Q → P := by
 intro q
 (first | refine OutC.int ?_ | refine OutC.bool ?_ | refine OutC.sl ?_ | refine OutC.own rfl ?_ | refine OutC.fz rfl ?_ | refine OutC.zero ?_ | refine OutC.d ?_)
 exact q) : P := h q
theorem oC {P Q R : Prop} (q : Q) (r : R) (h : Q → R → P := by
 intro q r
 (first | refine OutVs.cons ?_ ?_ | refine OutCs.cons ?_ ?_)
 exact q
 exact r) : P := h q r
theorem RC_at {a t : Nat} {l : List ResultVar} {vs : List (Bool × List C)} [LdC t] (h : ResW Tryz.prog tm bo (.cell a t :: l) vs) : ResW Tryz.prog tm bo (.cell a t :: l) vs := h
theorem RA_at {a t : Nat} {l : List ResultVar} {vs : List (Bool × List C)} (n : Nat) [LdA t n] (h : ResW Tryz.prog tm bo (.cell a t :: l) vs) : ResW Tryz.prog tm bo (.cell a t :: l) vs := h
theorem eW {fn : Func} {args : List Arg} {vs : List (Bool × List C)} {l : List ResultVar} {ys : List (Bool × List C)} (hfr : fn.results = l.toArray) (ho : OutVs (lko bo) vs ys) (hr : ResW Tryz.prog tm bo l vs := by
 (repeat' (first | exact ResW.nil | refine ResW.tmp rfl ?_ | (refine RC_at ?_; refine ResW.cell LdC.h rfl rfl rfl ?_) | (refine RA_at 3 ?_; refine ResW.cellA (cs' := [_, _, _]) (LdA.h (n := 3)) rfl rfl rfl ?_) | (refine RA_at 4 ?_; refine ResW.cellA (cs' := [_, _, _, _]) (LdA.h (n := 4)) rfl rfl rfl ?_) | (refine RA_at 6 ?_; refine ResW.cellA (cs' := [_, _, _, _, _, _]) (LdA.h (n := 6)) rfl rfl rfl ?_) | (refine RA_at 7 ?_; refine ResW.cellA (cs' := [_, _, _, _, _, _, _]) (LdA.h (n := 7)) rfl rfl rfl ?_) | (refine RA_at 9 ?_; refine ResW.cellA (cs' := [_, _, _, _, _, _, _, _, _]) (LdA.h (n := 9)) rfl rfl rfl ?_) | (refine RA_at 10 ?_; refine ResW.cellA (cs' := [_, _, _, _, _, _, _, _, _, _]) (LdA.h (n := 10)) rfl rfl rfl ?_)))) (hio : args.all (fun a => !isIo a) = true := by exact rfl) : FinW Tryz.prog fn args { vals := ys } .ret ⟨tm, clean bo, nx⟩ := endW hfr hr ho hio
theorem eO {fn : Func} {args : List Arg} {vs : List (Bool × List C)} {l : List ResultVar} {ax : AX} {r : ARes} (hfr : fn.results = l.toArray) (h : outO (clean bo) vs args = some r) (hax : ax = .ret ∨ (ax = .normal ∧ l = []) := by
 (first | exact .inl rfl | exact .inr ⟨rfl, rfl⟩)) (hr : ResW Tryz.prog tm bo l vs := by
 (repeat' (first | exact ResW.nil | refine ResW.tmp rfl ?_ | (refine RC_at ?_; refine ResW.cell LdC.h rfl rfl rfl ?_) | (refine RA_at 3 ?_; refine ResW.cellA (cs' := [_, _, _]) (LdA.h (n := 3)) rfl rfl rfl ?_) | (refine RA_at 4 ?_; refine ResW.cellA (cs' := [_, _, _, _]) (LdA.h (n := 4)) rfl rfl rfl ?_) | (refine RA_at 6 ?_; refine ResW.cellA (cs' := [_, _, _, _, _, _]) (LdA.h (n := 6)) rfl rfl rfl ?_) | (refine RA_at 7 ?_; refine ResW.cellA (cs' := [_, _, _, _, _, _, _]) (LdA.h (n := 7)) rfl rfl rfl ?_) | (refine RA_at 9 ?_; refine ResW.cellA (cs' := [_, _, _, _, _, _, _, _, _]) (LdA.h (n := 9)) rfl rfl rfl ?_) | (refine RA_at 10 ?_; refine ResW.cellA (cs' := [_, _, _, _, _, _, _, _, _, _]) (LdA.h (n := 10)) rfl rfl rfl ?_)))) : FinO Tryz.prog fn args r ax ⟨tm, clean bo, nx⟩ := by
 rcases hax with rfl | ⟨rfl, rfl⟩
 ·exact endO1 hfr hr h
 ·exact endO1n hfr hr h
theorem oM {P : Prop} (h : P := by
 (first
 | omega
 | (simp only [IntKind.bits, List.length_append, List.length_cons, List.length_nil, List.length_map, List.length_take, List.length_drop, List.length_replicate, List.length_range, List.length_set, lInts, lSets, lBools, lMat, lTabs, lMixes, lSteps, lNodes, lConfs, lEnts, lActs, lCtls, lSigs]; omega))) : P := h
theorem zC {P Q K : Prop} (c : K) (q : Q) (h : K → Q → P := by
 intro c q
 (first | refine W.call0A rfl BoC.h c rfl rfl rfl ?_ | refine W.call0T rfl BoC.h c rfl rfl rfl ?_ | refine W.call1A rfl BoC.h c rfl rfl rfl rfl rfl ?_ | refine W.call1T rfl BoC.h c rfl rfl rfl rfl rfl ?_)
 exact q) : P := h c q
theorem zS {P Q K : Prop} (c : K) (q : Q) (h : K → Q → P := by
 intro c q
 (first | refine W.callS _ rfl m64 BoC.h c rfl rfl ?_ | refine W.callS1 _ rfl m64 BoC.h c rfl rfl rfl rfl ?_)
 exact q) : P := h c q
theorem zK {P Q K : Prop} (c : K) (q : Q) (h : K → Q → P := by
 intro c q
 (first | refine W.callK rfl BoC.h c rfl rfl rfl rfl rfl rfl rfl rfl rfl rfl rfl rfl rfl rfl ?_)
 exact q) : P := h c q
theorem zI {P Q K : Prop} (c : K) (q : Q) (h : K → Q → P := by
 intro c q
 (first | refine W.callIO rfl BoC.h c rfl rfl rfl rfl rfl rfl rfl rfl rfl rfl rfl rfl rfl ?_)
 exact q) : P := h c q
theorem zE {P Q K : Prop} (c : K) (q : Q) (h : K → Q → P := by
 intro c q
 (first | refine W.callE _ rfl m64 BoC.h c rfl rfl rfl ?_)
 exact q) : P := h c q
end Go.Proofs.YtngjhkgcfabciaaGreat

