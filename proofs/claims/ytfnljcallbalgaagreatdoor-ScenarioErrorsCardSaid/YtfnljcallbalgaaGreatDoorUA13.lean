/- Rules of runs and contracts of functions, for the claims of one seat. -/
import Derived.Test.YtfnljcallbalgaaGreatDoorUA11
import Derived.Test.YtfnljcallbalgaaGreatDoorUA12
namespace Go.Proofs.YtfnljcallbalgaaGreatDoor
open Go Go.RowKit
set_option linter.unusedVariables false
set_option maxRecDepth 100000
theorem m64 {i k : Nat} (h : i * 64 = k := by
 (first | (simp only [Nat.reduceAdd, Nat.reduceMul]; done) | (simp only [Nat.reduceAdd, Nat.reduceMul]; exact rfl))) : i * 64 = k := h
variable {N : Nat} {dr : Bool} {cs : List Code} {R : AX → St → Prop} {tm : List (Nat × AV)} {bo : BO} {nx : Nat} {ops : Array Oper} {i : Nat} {os : List Oper} {ns : List Note} {d : Nat} {pos : String} {ty : TypeId} {af : Array Edge} {lend : FuncId → Bool}
theorem K_la {t : TypeId} {x : Operand} (n : Nat) [LdA t n] (h : W Tryz.prog lend N ops dr cs R i (⟨some d, .load t x, ty, pos, af, none⟩ :: os) tm bo nx ns) : W Tryz.prog lend N ops dr cs R i (⟨some d, .load t x, ty, pos, af, none⟩ :: os) tm bo nx ns := h
theorem W.la {t : TypeId} {x : Operand} {c : C} {cs' cs2 : List C} {off n : Nat} [hl : LdA t n] (hd : Nat.blt d N = true) (hx : (ev (lk tm) x).bind slot1 = some c) (hb : behind (lko bo) c = some (cs', off)) (hc : subC off n cs' = some cs2) (h : W Tryz.prog lend N ops dr cs R (i + 1) os ((d, .one true cs2) :: tm) bo nx (ns ++ [⟨opKeys (lk tm) (lko bo) ⟨some d, .load t x, ty, pos, af, none⟩, []⟩])) : W Tryz.prog lend N ops dr cs R i (⟨some d, .load t x, ty, pos, af, none⟩ :: os) tm bo nx ns := W.loadA hd hl.h hx hb hc h
theorem F_at {P : Program} {fn : Func} {args : List Arg} {r : ARes} {ax : AX} {st : St} (h : FinW P fn args r ax st) : FinW P fn args r ax st := h
theorem FO_at {P : Program} {fn : Func} {args : List Arg} {r : ARes} {ax : AX} {st : St} (h : FinO P fn args r ax st) : FinO P fn args r ax st := h
theorem x2ld {P Q R : Prop} (q : Q) (r : R) (h : Q → R → P := by
 intro q r
 (first
  | (with_reducible refine K_ld 2 ?_); (first
   | refine W.load rfl ld2.h rfl (behind_el rfl (zInts ?_)) rfl ?_
   | refine W.load rfl ld2.h rfl (behind_el rfl (zSteps ?_)) rfl ?_
   | refine W.load rfl ld2.h rfl (behind_el rfl (zTabs ?_)) rfl ?_
   | refine W.load rfl ld2.h rfl (behind_el rfl (zActs ?_)) rfl ?_)
  | (with_reducible refine K_ld 3 ?_); (first
   | refine W.load rfl ld3.h rfl (behind_el rfl (zInts ?_)) rfl ?_
   | refine W.load rfl ld3.h rfl (behind_el rfl (zTabs ?_)) rfl ?_
   | refine W.load rfl ld3.h rfl (behind_el rfl (zSets ?_)) rfl ?_
   | refine W.load rfl ld3.h rfl (behind_el rfl (zSteps ?_)) rfl ?_
   | refine W.load rfl ld3.h rfl (behind_el rfl (zBools ?_)) rfl ?_
   | refine W.load rfl ld3.h rfl (behind_el rfl (zMat ?_)) rfl ?_
   | refine W.load rfl ld3.h rfl (behind_el rfl (zConfs ?_)) rfl ?_
   | refine W.load rfl ld3.h rfl (behind_el rfl (zMixes ?_)) rfl ?_
   | refine W.load rfl ld3.h rfl (behind_el rfl (zActs ?_)) rfl ?_)
  | (with_reducible refine K_ld 4 ?_); (first
   | refine W.load rfl ld4.h rfl (behind_el rfl (zBools ?_)) rfl ?_
   | refine W.load rfl ld4.h rfl (behind_el rfl (zInts ?_)) rfl ?_
   | refine W.load rfl ld4.h rfl (behind_el rfl (zMat ?_)) rfl ?_
   | refine W.load rfl ld4.h rfl (behind_el rfl (zSets ?_)) rfl ?_
   | refine W.load rfl ld4.h rfl (behind_el rfl (zTabs ?_)) rfl ?_
   | refine W.load rfl ld4.h rfl (behind_el rfl (zConfs ?_)) rfl ?_)
  | (with_reducible refine K_ld 22 ?_); (first
   | refine W.load rfl ld22.h rfl (behind_el rfl (zInts ?_)) rfl ?_
   | refine W.load rfl ld22.h rfl (behind_el rfl (zSets ?_)) rfl ?_
   | refine W.load rfl ld22.h rfl (behind_el rfl (zSteps ?_)) rfl ?_
   | refine W.load rfl ld22.h rfl (behind_el rfl (zTabs ?_)) rfl ?_
   | refine W.load rfl ld22.h rfl (behind_el rfl (zBools ?_)) rfl ?_
   | refine W.load rfl ld22.h rfl (behind_el rfl (zMat ?_)) rfl ?_
   | refine W.load rfl ld22.h rfl (behind_el rfl (zConfs ?_)) rfl ?_
   | refine W.load rfl ld22.h rfl (behind_el rfl (zMixes ?_)) rfl ?_)
  | (with_reducible refine K_ld 23 ?_); (first
   | refine W.load rfl ld23.h rfl (behind_el rfl (zInts ?_)) rfl ?_
   | refine W.load rfl ld23.h rfl (behind_el rfl (zSteps ?_)) rfl ?_
   | refine W.load rfl ld23.h rfl (behind_el rfl (zTabs ?_)) rfl ?_
   | refine W.load rfl ld23.h rfl (behind_el rfl (zBools ?_)) rfl ?_
   | refine W.load rfl ld23.h rfl (behind_el rfl (zMat ?_)) rfl ?_
   | refine W.load rfl ld23.h rfl (behind_el rfl (zSets ?_)) rfl ?_
   | refine W.load rfl ld23.h rfl (behind_el rfl (zConfs ?_)) rfl ?_)
  | (with_reducible refine K_ld 25 ?_); (first
   | refine W.loadA (cs2 := [_, _, _, _]) rfl ld25.h rfl (behind_el rfl (zInts ?_)) rfl ?_
   | refine W.loadA (cs2 := [_, _, _, _]) rfl ld25.h rfl (behind_el rfl (zSets ?_)) rfl ?_
   | refine W.loadA (cs2 := [_, _, _, _]) rfl ld25.h rfl (behind_el rfl (zSteps ?_)) rfl ?_
   | refine W.loadA (cs2 := [_, _, _, _]) rfl ld25.h rfl (behind_el rfl (zTabs ?_)) rfl ?_
   | refine W.loadA (cs2 := [_, _, _, _]) rfl ld25.h rfl (behind_el rfl (zConfs ?_)) rfl ?_
   | refine W.loadA (cs2 := [_, _, _, _]) rfl ld25.h rfl (behind_el rfl (zMixes ?_)) rfl ?_
   | refine W.loadA (cs2 := [_, _, _, _]) rfl ld25.h rfl (behind_el rfl (zEnts ?_)) rfl ?_
   | refine W.loadA (cs2 := [_, _, _, _]) rfl ld25.h rfl (behind_el rfl (zSigs ?_)) rfl ?_
   | refine W.loadA (cs2 := [_, _, _, _]) rfl ld25.h rfl (behind_el rfl (zActs ?_)) rfl ?_)
  | (with_reducible refine K_ld 26 ?_); (first
   | refine W.load rfl ld26.h rfl (behind_el rfl (zInts ?_)) rfl ?_
   | refine W.load rfl ld26.h rfl (behind_el rfl (zSets ?_)) rfl ?_
   | refine W.load rfl ld26.h rfl (behind_el rfl (zSteps ?_)) rfl ?_
   | refine W.load rfl ld26.h rfl (behind_el rfl (zTabs ?_)) rfl ?_
   | refine W.load rfl ld26.h rfl (behind_el rfl (zMixes ?_)) rfl ?_)
  | (with_reducible refine K_ld 28 ?_); (first
   | refine W.loadA (cs2 := [_, _, _, _, _, _, _]) rfl ld28.h rfl (behind_el rfl (zInts ?_)) rfl ?_
   | refine W.loadA (cs2 := [_, _, _, _, _, _, _]) rfl ld28.h rfl (behind_el rfl (zSets ?_)) rfl ?_
   | refine W.loadA (cs2 := [_, _, _, _, _, _, _]) rfl ld28.h rfl (behind_el rfl (zSteps ?_)) rfl ?_
   | refine W.loadA (cs2 := [_, _, _, _, _, _, _]) rfl ld28.h rfl (behind_el rfl (zTabs ?_)) rfl ?_)
  | (with_reducible refine K_ld 29 ?_); (first
   | refine W.load rfl ld29.h rfl (behind_el rfl (zInts ?_)) rfl ?_
   | refine W.load rfl ld29.h rfl (behind_el rfl (zSets ?_)) rfl ?_
   | refine W.load rfl ld29.h rfl (behind_el rfl (zSteps ?_)) rfl ?_)
  | (with_reducible refine K_ld 31 ?_); (first
   | refine W.loadA (cs2 := [_, _, _, _, _, _, _, _]) rfl ld31.h rfl (behind_el rfl (zInts ?_)) rfl ?_
   | refine W.loadA (cs2 := [_, _, _, _, _, _, _, _]) rfl ld31.h rfl (behind_el rfl (zSets ?_)) rfl ?_
   | refine W.loadA (cs2 := [_, _, _, _, _, _, _, _]) rfl ld31.h rfl (behind_el rfl (zSteps ?_)) rfl ?_
   | refine W.loadA (cs2 := [_, _, _, _, _, _, _, _]) rfl ld31.h rfl (behind_el rfl (zTabs ?_)) rfl ?_)
  | (with_reducible refine K_ld 55 ?_); (first
   | refine W.load rfl ld55.h rfl (behind_el rfl (zInts ?_)) rfl ?_
   | refine W.load rfl ld55.h rfl (behind_el rfl (zSets ?_)) rfl ?_
   | refine W.load rfl ld55.h rfl (behind_el rfl (zTabs ?_)) rfl ?_
   | refine W.load rfl ld55.h rfl (behind_el rfl (zBools ?_)) rfl ?_
   | refine W.load rfl ld55.h rfl (behind_el rfl (zMat ?_)) rfl ?_
   | refine W.load rfl ld55.h rfl (behind_el rfl (zConfs ?_)) rfl ?_
   | refine W.load rfl ld55.h rfl (behind_el rfl (zMixes ?_)) rfl ?_
   | refine W.load rfl ld55.h rfl (behind_el rfl (zSteps ?_)) rfl ?_)
  | (with_reducible refine K_ld 57 ?_); (first
   | refine W.loadA (cs2 := [_, _, _]) rfl ld57.h rfl (behind_el rfl (zSteps ?_)) rfl ?_
   | refine W.loadA (cs2 := [_, _, _]) rfl ld57.h rfl (behind_el rfl (zInts ?_)) rfl ?_
   | refine W.loadA (cs2 := [_, _, _]) rfl ld57.h rfl (behind_el rfl (zSets ?_)) rfl ?_
   | refine W.loadA (cs2 := [_, _, _]) rfl ld57.h rfl (behind_el rfl (zTabs ?_)) rfl ?_
   | refine W.loadA (cs2 := [_, _, _]) rfl ld57.h rfl (behind_el rfl (zConfs ?_)) rfl ?_
   | refine W.loadA (cs2 := [_, _, _]) rfl ld57.h rfl (behind_el rfl (zMixes ?_)) rfl ?_
   | refine W.loadA (cs2 := [_, _, _]) rfl ld57.h rfl (behind_el rfl (zBools ?_)) rfl ?_
   | refine W.loadA (cs2 := [_, _, _]) rfl ld57.h rfl (behind_el rfl (zMat ?_)) rfl ?_)
  | (with_reducible refine K_ld 59 ?_); (first
   | refine W.loadA (cs2 := [_, _, _, _, _, _, _, _, _]) rfl ld59.h rfl (behind_el rfl (zInts ?_)) rfl ?_
   | refine W.loadA (cs2 := [_, _, _, _, _, _, _, _, _]) rfl ld59.h rfl (behind_el rfl (zSteps ?_)) rfl ?_
   | refine W.loadA (cs2 := [_, _, _, _, _, _, _, _, _]) rfl ld59.h rfl (behind_el rfl (zTabs ?_)) rfl ?_
   | refine W.loadA (cs2 := [_, _, _, _, _, _, _, _, _]) rfl ld59.h rfl (behind_el rfl (zEnts ?_)) rfl ?_
   | refine W.loadA (cs2 := [_, _, _, _, _, _, _, _, _]) rfl ld59.h rfl (behind_el rfl (zSigs ?_)) rfl ?_
   | refine W.loadA (cs2 := [_, _, _, _, _, _, _, _, _]) rfl ld59.h rfl (behind_el rfl (zActs ?_)) rfl ?_
   | refine W.loadA (cs2 := [_, _, _, _, _, _, _, _, _]) rfl ld59.h rfl (behind_el rfl (zSets ?_)) rfl ?_)
  | (with_reducible refine K_ld 70 ?_); (first
   | refine W.load rfl ld70.h rfl (behind_el rfl (zInts ?_)) rfl ?_
   | refine W.load rfl ld70.h rfl (behind_el rfl (zSteps ?_)) rfl ?_
   | refine W.load rfl ld70.h rfl (behind_el rfl (zTabs ?_)) rfl ?_)
  | (with_reducible refine K_ld 71 ?_); (first
   | refine W.load rfl ld71.h rfl (behind_el rfl (zInts ?_)) rfl ?_
   | refine W.load rfl ld71.h rfl (behind_el rfl (zSteps ?_)) rfl ?_
   | refine W.load rfl ld71.h rfl (behind_el rfl (zTabs ?_)) rfl ?_)
  | (with_reducible refine K_ld 90 ?_); (first
   | refine W.loadA (cs2 := [_, _, _, _, _, _, _, _, _, _, _]) rfl ld90.h rfl (behind_el rfl (zInts ?_)) rfl ?_
   | refine W.loadA (cs2 := [_, _, _, _, _, _, _, _, _, _, _]) rfl ld90.h rfl (behind_el rfl (zTabs ?_)) rfl ?_)
  | (with_reducible refine K_ld 104 ?_); (first
   | refine W.loadA (cs2 := [_, _, _]) rfl ld104.h rfl (behind_el rfl (zSteps ?_)) rfl ?_
   | refine W.loadA (cs2 := [_, _, _]) rfl ld104.h rfl (behind_el rfl (zInts ?_)) rfl ?_
   | refine W.loadA (cs2 := [_, _, _]) rfl ld104.h rfl (behind_el rfl (zTabs ?_)) rfl ?_
   | refine W.loadA (cs2 := [_, _, _]) rfl ld104.h rfl (behind_el rfl (zMixes ?_)) rfl ?_)
  | (with_reducible refine K_ld 128 ?_); (first
   | refine W.load rfl ld128.h rfl (behind_el rfl (zBools ?_)) rfl ?_
   | refine W.load rfl ld128.h rfl (behind_el rfl (zInts ?_)) rfl ?_
   | refine W.load rfl ld128.h rfl (behind_el rfl (zMat ?_)) rfl ?_
   | refine W.load rfl ld128.h rfl (behind_el rfl (zTabs ?_)) rfl ?_
   | refine W.load rfl ld128.h rfl (behind_el rfl (zSets ?_)) rfl ?_
   | refine W.load rfl ld128.h rfl (behind_el rfl (zConfs ?_)) rfl ?_)
  | (with_reducible refine K_ld 130 ?_); (first
   | refine W.loadA (cs2 := [_, _, _, _, _, _]) rfl ld130.h rfl (behind_el rfl (zInts ?_)) rfl ?_
   | refine W.loadA (cs2 := [_, _, _, _, _, _]) rfl ld130.h rfl (behind_el rfl (zSets ?_)) rfl ?_
   | refine W.loadA (cs2 := [_, _, _, _, _, _]) rfl ld130.h rfl (behind_el rfl (zTabs ?_)) rfl ?_
   | refine W.loadA (cs2 := [_, _, _, _, _, _]) rfl ld130.h rfl (behind_el rfl (zBools ?_)) rfl ?_
   | refine W.loadA (cs2 := [_, _, _, _, _, _]) rfl ld130.h rfl (behind_el rfl (zMat ?_)) rfl ?_
   | refine W.loadA (cs2 := [_, _, _, _, _, _]) rfl ld130.h rfl (behind_el rfl (zConfs ?_)) rfl ?_)
  | (with_reducible refine K_ld 131 ?_); (first
   | refine W.load rfl ld131.h rfl (behind_el rfl (zBools ?_)) rfl ?_
   | refine W.load rfl ld131.h rfl (behind_el rfl (zInts ?_)) rfl ?_
   | refine W.load rfl ld131.h rfl (behind_el rfl (zMat ?_)) rfl ?_
   | refine W.load rfl ld131.h rfl (behind_el rfl (zTabs ?_)) rfl ?_
   | refine W.load rfl ld131.h rfl (behind_el rfl (zSets ?_)) rfl ?_
   | refine W.load rfl ld131.h rfl (behind_el rfl (zConfs ?_)) rfl ?_)
  | (with_reducible refine K_ld 180 ?_); (first
   | refine W.loadA (cs2 := [_, _, _]) rfl ld180.h rfl (behind_el rfl (zSteps ?_)) rfl ?_
   | refine W.loadA (cs2 := [_, _, _]) rfl ld180.h rfl (behind_el rfl (zConfs ?_)) rfl ?_
   | refine W.loadA (cs2 := [_, _, _]) rfl ld180.h rfl (behind_el rfl (zMixes ?_)) rfl ?_)
  | (with_reducible refine K_ld 183 ?_); (first
   | refine W.load rfl ld183.h rfl (behind_el rfl (zInts ?_)) rfl ?_
   | refine W.load rfl ld183.h rfl (behind_el rfl (zSets ?_)) rfl ?_
   | refine W.load rfl ld183.h rfl (behind_el rfl (zTabs ?_)) rfl ?_
   | refine W.load rfl ld183.h rfl (behind_el rfl (zBools ?_)) rfl ?_
   | refine W.load rfl ld183.h rfl (behind_el rfl (zMat ?_)) rfl ?_
   | refine W.load rfl ld183.h rfl (behind_el rfl (zConfs ?_)) rfl ?_)
  | (with_reducible refine K_ld 245 ?_); (first
   | refine W.loadA (cs2 := [_, _, _, _, _, _, _]) rfl ld245.h rfl (behind_el rfl (zSigs ?_)) rfl ?_
   | refine W.loadA (cs2 := [_, _, _, _, _, _, _]) rfl ld245.h rfl (behind_el rfl (zActs ?_)) rfl ?_)
  | (with_reducible refine K_ld 278 ?_); (first
   | refine W.load rfl ld278.h rfl (behind_el rfl (zMixes ?_)) rfl ?_
   | refine W.load rfl ld278.h rfl (behind_el rfl (zSteps ?_)) rfl ?_)
  | (with_reducible refine K_ld 286 ?_); refine W.loadA (cs2 := [_, _, _, _]) rfl ld286.h rfl (behind_el rfl (zEnts ?_)) rfl ?_
  | (with_reducible refine K_ld 299 ?_); (first
   | refine W.load rfl ld299.h rfl (behind_el rfl (zActs ?_)) rfl ?_
   | refine W.load rfl ld299.h rfl (behind_el rfl (zSigs ?_)) rfl ?_)
  | (with_reducible refine K_ld 425 ?_); (first
   | refine W.loadA (cs2 := [_, _, _, _, _, _]) rfl ld425.h rfl (behind_el rfl (zSteps ?_)) rfl ?_
   | refine W.loadA (cs2 := [_, _, _, _, _, _]) rfl ld425.h rfl (behind_el rfl (zMixes ?_)) rfl ?_))
 exact q
 exact r) : P := h q r
theorem x2bn {P Q R : Prop} (q : Q) (r : R) (h : Q → R → P := by
 intro q r
 (first
  | (with_reducible refine K_bn .shl _ ?_); refine W.shl rfl rfl rfl ?_ ?_
  | (with_reducible refine K_bn .shr _ ?_); refine W.shr rfl rfl rfl ?_ ?_
  | (with_reducible refine K_bn .rem _ ?_); refine W.rem rfl rfl rfl ?_ ?_)
 exact q
 exact r) : P := h q r
theorem x2st {P Q R : Prop} (q : Q) (r : R) (h : Q → R → P := by
 intro q r
 (first
  | (with_reducible refine K_st 3 ?_); (first
   | refine W.storeE sz3.h rfl rfl rfl (zInts ?_) rfl (And.intro rfl (Nat.le_of_ble_eq_true rfl)) wInts ?_
   | refine W.storeE sz3.h rfl rfl rfl (zTabs ?_) rfl (And.intro rfl (Nat.le_of_ble_eq_true rfl)) wTabs ?_
   | refine W.storeE sz3.h rfl rfl rfl (zSteps ?_) rfl (And.intro rfl (Nat.le_of_ble_eq_true rfl)) wSteps ?_
   | refine W.storeE sz3.h rfl rfl rfl (zBools ?_) rfl (And.intro rfl (Nat.le_of_ble_eq_true rfl)) wBools ?_
   | refine W.storeE sz3.h rfl rfl rfl (zMat ?_) rfl (And.intro rfl (Nat.le_of_ble_eq_true rfl)) wMat ?_
   | refine W.storeE sz3.h rfl rfl rfl (zSets ?_) rfl (And.intro rfl (Nat.le_of_ble_eq_true rfl)) wSets ?_
   | refine W.storeE sz3.h rfl rfl rfl (zMixes ?_) rfl (And.intro rfl (Nat.le_of_ble_eq_true rfl)) wMixes ?_
   | refine W.storeE sz3.h rfl rfl rfl (zActs ?_) rfl (And.intro rfl (Nat.le_of_ble_eq_true rfl)) wActs ?_)
  | (with_reducible refine K_st 22 ?_); (first
   | refine W.storeE sz22.h rfl rfl rfl (zInts ?_) rfl (And.intro rfl (Nat.le_of_ble_eq_true rfl)) wInts ?_
   | refine W.storeE sz22.h rfl rfl rfl (zSteps ?_) rfl (And.intro rfl (Nat.le_of_ble_eq_true rfl)) wSteps ?_
   | refine W.storeE sz22.h rfl rfl rfl (zTabs ?_) rfl (And.intro rfl (Nat.le_of_ble_eq_true rfl)) wTabs ?_
   | refine W.storeE sz22.h rfl rfl rfl (zSets ?_) rfl (And.intro rfl (Nat.le_of_ble_eq_true rfl)) wSets ?_)
  | (with_reducible refine K_st 25 ?_); (first
   | refine W.storeE sz25.h rfl rfl rfl (zInts ?_) rfl (And.intro rfl (Nat.le_of_ble_eq_true rfl)) wInts ?_
   | refine W.storeE sz25.h rfl rfl rfl (zSets ?_) rfl (And.intro rfl (Nat.le_of_ble_eq_true rfl)) wSets ?_
   | refine W.storeE sz25.h rfl rfl rfl (zSteps ?_) rfl (And.intro rfl (Nat.le_of_ble_eq_true rfl)) wSteps ?_)
  | (with_reducible refine K_st 26 ?_); (first
   | refine W.storeE sz26.h rfl rfl rfl (zInts ?_) rfl (And.intro rfl (Nat.le_of_ble_eq_true rfl)) wInts ?_
   | refine W.storeE sz26.h rfl rfl rfl (zSteps ?_) rfl (And.intro rfl (Nat.le_of_ble_eq_true rfl)) wSteps ?_
   | refine W.storeE sz26.h rfl rfl rfl (zTabs ?_) rfl (And.intro rfl (Nat.le_of_ble_eq_true rfl)) wTabs ?_
   | refine W.storeE sz26.h rfl rfl rfl (zSets ?_) rfl (And.intro rfl (Nat.le_of_ble_eq_true rfl)) wSets ?_)
  | (with_reducible refine K_st 29 ?_); (first
   | refine W.storeE sz29.h rfl rfl rfl (zInts ?_) rfl (And.intro rfl (Nat.le_of_ble_eq_true rfl)) wInts ?_
   | refine W.storeE sz29.h rfl rfl rfl (zSets ?_) rfl (And.intro rfl (Nat.le_of_ble_eq_true rfl)) wSets ?_
   | refine W.storeE sz29.h rfl rfl rfl (zSteps ?_) rfl (And.intro rfl (Nat.le_of_ble_eq_true rfl)) wSteps ?_)
  | (with_reducible refine K_st 31 ?_); (first
   | refine W.storeE sz31.h rfl rfl rfl (zInts ?_) rfl (And.intro rfl (Nat.le_of_ble_eq_true rfl)) wInts ?_
   | refine W.storeE sz31.h rfl rfl rfl (zSets ?_) rfl (And.intro rfl (Nat.le_of_ble_eq_true rfl)) wSets ?_
   | refine W.storeE sz31.h rfl rfl rfl (zSteps ?_) rfl (And.intro rfl (Nat.le_of_ble_eq_true rfl)) wSteps ?_)
  | (with_reducible refine K_st 55 ?_); (first
   | refine W.storeE sz55.h rfl rfl rfl (zInts ?_) rfl (And.intro rfl (Nat.le_of_ble_eq_true rfl)) wInts ?_
   | refine W.storeE sz55.h rfl rfl rfl (zSets ?_) rfl (And.intro rfl (Nat.le_of_ble_eq_true rfl)) wSets ?_
   | refine W.storeE sz55.h rfl rfl rfl (zTabs ?_) rfl (And.intro rfl (Nat.le_of_ble_eq_true rfl)) wTabs ?_)
  | (with_reducible refine K_st 57 ?_); (first
   | refine W.storeE sz57.h rfl rfl rfl (zSteps ?_) rfl (And.intro rfl (Nat.le_of_ble_eq_true rfl)) wSteps ?_
   | refine W.storeE sz57.h rfl rfl rfl (zInts ?_) rfl (And.intro rfl (Nat.le_of_ble_eq_true rfl)) wInts ?_
   | refine W.storeE sz57.h rfl rfl rfl (zSets ?_) rfl (And.intro rfl (Nat.le_of_ble_eq_true rfl)) wSets ?_
   | refine W.storeE sz57.h rfl rfl rfl (zTabs ?_) rfl (And.intro rfl (Nat.le_of_ble_eq_true rfl)) wTabs ?_
   | refine W.storeE sz57.h rfl rfl rfl (zConfs ?_) rfl (And.intro rfl (Nat.le_of_ble_eq_true rfl)) wConfs ?_
   | refine W.storeE sz57.h rfl rfl rfl (zMixes ?_) rfl (And.intro rfl (Nat.le_of_ble_eq_true rfl)) wMixes ?_
   | refine W.storeE sz57.h rfl rfl rfl (zBools ?_) rfl (And.intro rfl (Nat.le_of_ble_eq_true rfl)) wBools ?_
   | refine W.storeE sz57.h rfl rfl rfl (zMat ?_) rfl (And.intro rfl (Nat.le_of_ble_eq_true rfl)) wMat ?_)
  | (with_reducible refine K_st 59 ?_); (first
   | refine W.storeE sz59.h rfl rfl rfl (zInts ?_) rfl (And.intro rfl (Nat.le_of_ble_eq_true rfl)) wInts ?_
   | refine W.storeE sz59.h rfl rfl rfl (zSteps ?_) rfl (And.intro rfl (Nat.le_of_ble_eq_true rfl)) wSteps ?_
   | refine W.storeE sz59.h rfl rfl rfl (zTabs ?_) rfl (And.intro rfl (Nat.le_of_ble_eq_true rfl)) wTabs ?_
   | refine W.storeE sz59.h rfl rfl rfl (zEnts ?_) rfl (And.intro rfl (Nat.le_of_ble_eq_true rfl)) wEnts ?_
   | refine W.storeE sz59.h rfl rfl rfl (zSigs ?_) rfl (And.intro rfl (Nat.le_of_ble_eq_true rfl)) wSigs ?_
   | refine W.storeE sz59.h rfl rfl rfl (zActs ?_) rfl (And.intro rfl (Nat.le_of_ble_eq_true rfl)) wActs ?_
   | refine W.storeE sz59.h rfl rfl rfl (zSets ?_) rfl (And.intro rfl (Nat.le_of_ble_eq_true rfl)) wSets ?_)
  | (with_reducible refine K_st 70 ?_); (first
   | refine W.storeE sz70.h rfl rfl rfl (zInts ?_) rfl (And.intro rfl (Nat.le_of_ble_eq_true rfl)) wInts ?_
   | refine W.storeE sz70.h rfl rfl rfl (zSteps ?_) rfl (And.intro rfl (Nat.le_of_ble_eq_true rfl)) wSteps ?_
   | refine W.storeE sz70.h rfl rfl rfl (zTabs ?_) rfl (And.intro rfl (Nat.le_of_ble_eq_true rfl)) wTabs ?_)
  | (with_reducible refine K_st 71 ?_); (first
   | refine W.storeE sz71.h rfl rfl rfl (zInts ?_) rfl (And.intro rfl (Nat.le_of_ble_eq_true rfl)) wInts ?_
   | refine W.storeE sz71.h rfl rfl rfl (zSteps ?_) rfl (And.intro rfl (Nat.le_of_ble_eq_true rfl)) wSteps ?_
   | refine W.storeE sz71.h rfl rfl rfl (zTabs ?_) rfl (And.intro rfl (Nat.le_of_ble_eq_true rfl)) wTabs ?_)
  | (with_reducible refine K_st 90 ?_); (first
   | refine W.storeE sz90.h rfl rfl rfl (zInts ?_) rfl (And.intro rfl (Nat.le_of_ble_eq_true rfl)) wInts ?_
   | refine W.storeE sz90.h rfl rfl rfl (zTabs ?_) rfl (And.intro rfl (Nat.le_of_ble_eq_true rfl)) wTabs ?_)
  | (with_reducible refine K_st 104 ?_); (first
   | refine W.storeE sz104.h rfl rfl rfl (zSteps ?_) rfl (And.intro rfl (Nat.le_of_ble_eq_true rfl)) wSteps ?_
   | refine W.storeE sz104.h rfl rfl rfl (zMixes ?_) rfl (And.intro rfl (Nat.le_of_ble_eq_true rfl)) wMixes ?_
   | refine W.storeE sz104.h rfl rfl rfl (zInts ?_) rfl (And.intro rfl (Nat.le_of_ble_eq_true rfl)) wInts ?_)
  | (with_reducible refine K_st 130 ?_); (first
   | refine W.storeE sz130.h rfl rfl rfl (zInts ?_) rfl (And.intro rfl (Nat.le_of_ble_eq_true rfl)) wInts ?_
   | refine W.storeE sz130.h rfl rfl rfl (zTabs ?_) rfl (And.intro rfl (Nat.le_of_ble_eq_true rfl)) wTabs ?_
   | refine W.storeE sz130.h rfl rfl rfl (zSets ?_) rfl (And.intro rfl (Nat.le_of_ble_eq_true rfl)) wSets ?_
   | refine W.storeE sz130.h rfl rfl rfl (zBools ?_) rfl (And.intro rfl (Nat.le_of_ble_eq_true rfl)) wBools ?_
   | refine W.storeE sz130.h rfl rfl rfl (zMat ?_) rfl (And.intro rfl (Nat.le_of_ble_eq_true rfl)) wMat ?_
   | refine W.storeE sz130.h rfl rfl rfl (zConfs ?_) rfl (And.intro rfl (Nat.le_of_ble_eq_true rfl)) wConfs ?_)
  | (with_reducible refine K_st 180 ?_); (first
   | refine W.storeE sz180.h rfl rfl rfl (zSteps ?_) rfl (And.intro rfl (Nat.le_of_ble_eq_true rfl)) wSteps ?_
   | refine W.storeE sz180.h rfl rfl rfl (zConfs ?_) rfl (And.intro rfl (Nat.le_of_ble_eq_true rfl)) wConfs ?_
   | refine W.storeE sz180.h rfl rfl rfl (zMixes ?_) rfl (And.intro rfl (Nat.le_of_ble_eq_true rfl)) wMixes ?_)
  | (with_reducible refine K_st 183 ?_); (first
   | refine W.storeE sz183.h rfl rfl rfl (zInts ?_) rfl (And.intro rfl (Nat.le_of_ble_eq_true rfl)) wInts ?_
   | refine W.storeE sz183.h rfl rfl rfl (zSets ?_) rfl (And.intro rfl (Nat.le_of_ble_eq_true rfl)) wSets ?_
   | refine W.storeE sz183.h rfl rfl rfl (zTabs ?_) rfl (And.intro rfl (Nat.le_of_ble_eq_true rfl)) wTabs ?_
   | refine W.storeE sz183.h rfl rfl rfl (zBools ?_) rfl (And.intro rfl (Nat.le_of_ble_eq_true rfl)) wBools ?_
   | refine W.storeE sz183.h rfl rfl rfl (zMat ?_) rfl (And.intro rfl (Nat.le_of_ble_eq_true rfl)) wMat ?_)
  | (with_reducible refine K_st 245 ?_); (first
   | refine W.storeE sz245.h rfl rfl rfl (zActs ?_) rfl (And.intro rfl (Nat.le_of_ble_eq_true rfl)) wActs ?_
   | refine W.storeE sz245.h rfl rfl rfl (zSigs ?_) rfl (And.intro rfl (Nat.le_of_ble_eq_true rfl)) wSigs ?_)
  | (with_reducible refine K_st 286 ?_); refine W.storeE sz286.h rfl rfl rfl (zEnts ?_) rfl (And.intro rfl (Nat.le_of_ble_eq_true rfl)) wEnts ?_
  | (with_reducible refine K_st 299 ?_); refine W.storeE sz299.h rfl rfl rfl (zActs ?_) rfl (And.intro rfl (Nat.le_of_ble_eq_true rfl)) wActs ?_
  | (with_reducible refine K_st 425 ?_); refine W.storeE sz425.h rfl rfl rfl (zSteps ?_) rfl (And.intro rfl (Nat.le_of_ble_eq_true rfl)) wSteps ?_)
 exact q
 exact r) : P := h q r
theorem x2bu {P Q R : Prop} (q : Q) (r : R) (h : Q → R → P := by
 intro q r
 (first
  | (with_reducible refine K_bu .append 22 ?_); (first
   | refine W.appO _ rfl m64 ef22 is22 rfl rfl rfl rfl ?_ sInts ?_
   | refine W.appO _ rfl m64 ef22 is22 rfl rfl rfl rfl ?_ aInts ?_
   | refine W.appO _ rfl m64 ef22 is22 rfl rfl rfl rfl ?_ rfl ?_
   | refine W.appZ _ rfl m64 ef22 is22 rfl rfl rfl ?_ oInts ?_
   | refine W.appZ _ rfl m64 ef22 is22 rfl rfl rfl ?_ rfl ?_)
  | (with_reducible refine K_bu .append 26 ?_); (first
   | refine W.appO _ rfl m64 ef26 is26 rfl rfl rfl rfl ?_ sStepsC ?_
   | refine W.appO _ rfl m64 ef26 is26 rfl rfl rfl rfl ?_ aSteps ?_
   | refine W.appO _ rfl m64 ef26 is26 rfl rfl rfl rfl ?_ rfl ?_
   | refine W.appZ _ rfl m64 ef26 is26 rfl rfl rfl ?_ rfl ?_)
  | (with_reducible refine K_bu .append 29 ?_); (first
   | refine W.appO _ rfl m64 ef29 is29 rfl rfl rfl rfl ?_ sSets ?_
   | refine W.appO _ rfl m64 ef29 is29 rfl rfl rfl rfl ?_ aSets ?_
   | refine W.appO _ rfl m64 ef29 is29 rfl rfl rfl rfl ?_ rfl ?_
   | refine W.appZ _ rfl m64 ef29 is29 rfl rfl rfl ?_ oSets ?_
   | refine W.appZ _ rfl m64 ef29 is29 rfl rfl rfl ?_ rfl ?_)
  | (with_reducible refine K_bu .append 55 ?_); (first
   | refine W.appO _ rfl m64 ef55 is55 rfl rfl rfl rfl ?_ sSets ?_
   | refine W.appO _ rfl m64 ef55 is55 rfl rfl rfl rfl ?_ aSets ?_
   | refine W.appO _ rfl m64 ef55 is55 rfl rfl rfl rfl ?_ rfl ?_
   | refine W.appZ _ rfl m64 ef55 is55 rfl rfl rfl ?_ oSets ?_
   | refine W.appZ _ rfl m64 ef55 is55 rfl rfl rfl ?_ rfl ?_)
  | (with_reducible refine K_bu .append 62 ?_); (first
   | refine W.appO _ rfl m64 ef62 is62 rfl rfl rfl rfl ?_ sRepsC ?_
   | refine W.appO _ rfl m64 ef62 is62 rfl rfl rfl rfl ?_ aReps ?_
   | refine W.appO _ rfl m64 ef62 is62 rfl rfl rfl rfl ?_ rfl ?_
   | refine W.appZ _ rfl m64 ef62 is62 rfl rfl rfl ?_ rfl ?_)
  | (with_reducible refine K_bu .append 70 ?_); (first
   | refine W.appO _ rfl m64 ef70 is70 rfl rfl rfl rfl ?_ rfl ?_
   | refine W.appZ _ rfl m64 ef70 is70 rfl rfl rfl ?_ rfl ?_)
  | (with_reducible refine K_bu .append 71 ?_); (first
   | refine W.appO _ rfl m64 ef71 is71 rfl rfl rfl rfl ?_ rfl ?_
   | refine W.appZ _ rfl m64 ef71 is71 rfl rfl rfl ?_ rfl ?_)
  | (with_reducible refine K_bu .append 80 ?_); (first
   | refine W.appO _ rfl m64 ef80 is80 rfl rfl rfl rfl ?_ rfl ?_
   | refine W.appZ _ rfl m64 ef80 is80 rfl rfl rfl ?_ rfl ?_)
  | (with_reducible refine K_bu .append 239 ?_); (first
   | refine W.appO _ rfl m64 ef239 is239 rfl rfl rfl rfl ?_ sEntsC ?_
   | refine W.appO _ rfl m64 ef239 is239 rfl rfl rfl rfl ?_ aEnts ?_
   | refine W.appO _ rfl m64 ef239 is239 rfl rfl rfl rfl ?_ rfl ?_
   | refine W.appZ _ rfl m64 ef239 is239 rfl rfl rfl ?_ rfl ?_)
  | (with_reducible refine K_bu .append 278 ?_); (first
   | refine W.appO _ rfl m64 ef278 is278 rfl rfl rfl rfl ?_ sMixesC ?_
   | refine W.appO _ rfl m64 ef278 is278 rfl rfl rfl rfl ?_ aMixes ?_
   | refine W.appO _ rfl m64 ef278 is278 rfl rfl rfl rfl ?_ rfl ?_
   | refine W.appZ _ rfl m64 ef278 is278 rfl rfl rfl ?_ rfl ?_)
  | (with_reducible refine K_bu .append 281 ?_); (first
   | refine W.appO _ rfl m64 ef281 is281 rfl rfl rfl rfl ?_ sConfsC ?_
   | refine W.appO _ rfl m64 ef281 is281 rfl rfl rfl rfl ?_ aConfs ?_
   | refine W.appO _ rfl m64 ef281 is281 rfl rfl rfl rfl ?_ rfl ?_
   | refine W.appZ _ rfl m64 ef281 is281 rfl rfl rfl ?_ rfl ?_)
  | (with_reducible refine K_bu .append 299 ?_); (first
   | refine W.appO _ rfl m64 ef299 is299 rfl rfl rfl rfl ?_ sActsC ?_
   | refine W.appO _ rfl m64 ef299 is299 rfl rfl rfl rfl ?_ aActs ?_
   | refine W.appO _ rfl m64 ef299 is299 rfl rfl rfl rfl ?_ rfl ?_
   | refine W.appZ _ rfl m64 ef299 is299 rfl rfl rfl ?_ rfl ?_))
 exact q
 exact r) : P := h q r
theorem x2ix {P Q R : Prop} (q : Q) (r : R) (h : Q → R → P := by
 intro q r
 (first
  | (with_reducible refine K_ix 22 ?_); (first
   | refine W.idx rfl el22 rfl rfl (gIntsN ?_) ?_
   | refine W.idx rfl el22 rfl rfl (gInts ?_) ?_
   | refine W.idxF rfl el22 rfl rfl rfl (gInts ?_) ?_
   | refine W.idxO rfl el22 rfl rfl rfl ?_ ?_)
  | (with_reducible refine K_ix 23 ?_); (first
   | refine W.idx rfl el23 rfl rfl (gTabsN ?_) ?_
   | refine W.idx rfl el23 rfl rfl (gTabs ?_) ?_
   | refine W.idxF rfl el23 rfl rfl rfl (gTabs ?_) ?_
   | refine W.idxO rfl el23 rfl rfl rfl ?_ ?_)
  | (with_reducible refine K_ix 26 ?_); (first
   | refine W.idx rfl el26 rfl rfl (gStepsN ?_) ?_
   | refine W.idx rfl el26 rfl rfl (gSteps ?_) ?_
   | refine W.idxF rfl el26 rfl rfl rfl (gSteps ?_) ?_
   | refine W.idxO rfl el26 rfl rfl rfl ?_ ?_)
  | (with_reducible refine K_ix 40 ?_); (first
   | refine W.idxO rfl el40 rfl rfl rfl ?_ ?_
   | refine W.idx rfl el40 rfl rfl ?_ ?_)
  | (with_reducible refine K_ix 55 ?_); (first
   | refine W.idx rfl el55 rfl rfl (gSetsN ?_) ?_
   | refine W.idx rfl el55 rfl rfl (gSets ?_) ?_
   | refine W.idxF rfl el55 rfl rfl rfl (gSets ?_) ?_
   | refine W.idxO rfl el55 rfl rfl rfl ?_ ?_)
  | (with_reducible refine K_ix 80 ?_); (first
   | refine W.idxO rfl el80 rfl rfl rfl ?_ ?_
   | refine W.idx rfl el80 rfl rfl ?_ ?_)
  | (with_reducible refine K_ix 128 ?_); (first
   | refine W.idx rfl el128 rfl rfl (gMatN ?_) ?_
   | refine W.idx rfl el128 rfl rfl (gMat ?_) ?_
   | refine W.idxF rfl el128 rfl rfl rfl (gMat ?_) ?_
   | refine W.idxO rfl el128 rfl rfl rfl ?_ ?_)
  | (with_reducible refine K_ix 131 ?_); (first
   | refine W.idx rfl el131 rfl rfl (gBoolsN ?_) ?_
   | refine W.idx rfl el131 rfl rfl (gBools ?_) ?_
   | refine W.idxF rfl el131 rfl rfl rfl (gBools ?_) ?_
   | refine W.idxO rfl el131 rfl rfl rfl ?_ ?_)
  | (with_reducible refine K_ix 239 ?_); (first
   | refine W.idx rfl el239 rfl rfl (gEntsN ?_) ?_
   | refine W.idx rfl el239 rfl rfl (gEnts ?_) ?_
   | refine W.idxF rfl el239 rfl rfl rfl (gEnts ?_) ?_
   | refine W.idxO rfl el239 rfl rfl rfl ?_ ?_)
  | (with_reducible refine K_ix 278 ?_); (first
   | refine W.idx rfl el278 rfl rfl (gMixesN ?_) ?_
   | refine W.idx rfl el278 rfl rfl (gMixes ?_) ?_
   | refine W.idxF rfl el278 rfl rfl rfl (gMixes ?_) ?_
   | refine W.idxO rfl el278 rfl rfl rfl ?_ ?_)
  | (with_reducible refine K_ix 281 ?_); (first
   | refine W.idx rfl el281 rfl rfl (gConfsN ?_) ?_
   | refine W.idx rfl el281 rfl rfl (gConfs ?_) ?_
   | refine W.idxF rfl el281 rfl rfl rfl (gConfs ?_) ?_
   | refine W.idxO rfl el281 rfl rfl rfl ?_ ?_)
  | (with_reducible refine K_ix 399 ?_); (first
   | refine W.idx rfl el399 rfl rfl (gSigsN ?_) ?_
   | refine W.idx rfl el399 rfl rfl (gSigs ?_) ?_
   | refine W.idxF rfl el399 rfl rfl rfl (gSigs ?_) ?_
   | refine W.idxO rfl el399 rfl rfl rfl ?_ ?_))
 exact q
 exact r) : P := h q r
theorem x2mk {P Q R : Prop} (q : Q) (r : R) (h : Q → R → P := by
 intro q r
 (first
  | (with_reducible refine K_mk 22 ?_); refine W.make _ rfl m64 ef22 ns3 rfl rfl rfl ?_ rInts ?_
  | (with_reducible refine K_mk 55 ?_); refine W.make _ rfl m64 ef55 ns183 rfl rfl rfl ?_ rSets ?_
  | (with_reducible refine K_mk 71 ?_); refine W.make _ rfl m64 ef71 ns2 rfl rfl rfl ?_ rfl ?_)
 exact q
 exact r) : P := h q r
theorem wA {P Q : Prop} (q : Q) (h : Q → P := by
 intro q
 (first
 | (repeat1' ((with_reducible refine W_at ?_); (first
  | ((with_reducible refine K_nl ?_); (first
   | refine W.nil ?_
   | refine W.nilD ?_ ?_; (focus kernel_rfl)))
  | ((with_reducible refine K_mv ?_); refine W.move rfl rfl ?_)
  | ((with_reducible refine K_ld _ ?_); (first
   | refine W.ld rfl rfl rfl rfl ?_
   | (with_reducible refine K_la 3 ?_); refine W.la (n := 3) (cs2 := [_, _, _]) rfl rfl rfl rfl ?_
   | (with_reducible refine K_la 4 ?_); refine W.la (n := 4) (cs2 := [_, _, _, _]) rfl rfl rfl rfl ?_
   | (with_reducible refine K_la 6 ?_); refine W.la (n := 6) (cs2 := [_, _, _, _, _, _]) rfl rfl rfl rfl ?_
   | (with_reducible refine K_la 7 ?_); refine W.la (n := 7) (cs2 := [_, _, _, _, _, _, _]) rfl rfl rfl rfl ?_
   | (with_reducible refine K_la 8 ?_); refine W.la (n := 8) (cs2 := [_, _, _, _, _, _, _, _]) rfl rfl rfl rfl ?_
   | (with_reducible refine K_la 9 ?_); refine W.la (n := 9) (cs2 := [_, _, _, _, _, _, _, _, _]) rfl rfl rfl rfl ?_
   | (with_reducible refine K_la 11 ?_); refine W.la (n := 11) (cs2 := [_, _, _, _, _, _, _, _, _, _, _]) rfl rfl rfl rfl ?_))
  | ((with_reducible refine K_fa _ _ ?_); refine W.fa rfl rfl rfl ?_)
  | ((with_reducible refine K_bn _ _ ?_); (first
   | (with_reducible refine K_bn .add _ ?_); refine W.addI rfl rfl rfl ?_ ?_; (focus (clear q; omega))
   | (with_reducible refine K_bn .sub _ ?_); refine W.subI rfl rfl rfl ?_ ?_; (focus (clear q; omega))
   | (with_reducible refine K_bn .mul _ ?_); refine W.mulI rfl rfl rfl ?_ ?_; (focus (clear q; omega))
   | (with_reducible refine K_bn .neq 4 ?_); refine W.neB rfl ib4 rfl rfl ?_
   | refine W.bin rfl rfl rfl rfl ?_))
  | ((with_reducible refine K_st _ ?_); (first
   | refine W.st (cs2 := [_]) rfl rfl rfl rfl ?_
   | refine W.st (cs2 := [_, _, _]) rfl rfl rfl rfl ?_
   | refine W.st (cs2 := [_, _, _, _]) rfl rfl rfl rfl ?_
   | refine W.st (cs2 := [_, _, _, _, _, _]) rfl rfl rfl rfl ?_
   | refine W.st (cs2 := [_, _, _, _, _, _, _]) rfl rfl rfl rfl ?_
   | refine W.st (cs2 := [_, _, _, _, _, _, _, _]) rfl rfl rfl rfl ?_
   | refine W.st (cs2 := [_, _, _, _, _, _, _, _, _]) rfl rfl rfl rfl ?_
   | refine W.st (cs2 := [_, _, _, _, _, _, _, _, _, _, _]) rfl rfl rfl rfl ?_
   | refine W.st (cs2 := [_, _, _, _, _, _, _, _, _, _, _, _, _, _]) rfl rfl rfl rfl ?_
   | refine W.st (cs2 := [_, _, _, _, _, _, _, _, _, _, _, _, _, _, _]) rfl rfl rfl rfl ?_
   | refine W.st (cs2 := [_, _, _, _, _, _, _, _, _, _, _, _, _, _, _, _, _, _, _, _, _, _, _, _, _, _, _, _, _, _, _, _, _, _, _, _, _, _]) rfl rfl rfl rfl ?_))
  | ((with_reducible refine K_as ?_); refine W.assign rfl rfl ?_)
  | ((with_reducible refine K_g ?_); (first
   | refine W.gT rfl rfl ?_
   | refine W.gF rfl rfl rfl rfl ?_
   | refine W.gU rfl rfl rfl ?_))
  | ((with_reducible refine K_bx _ ?_); (first
   | (with_reducible refine K_bx 3 ?_); refine W.box _ rfl m64 rfl ?_
   | (with_reducible refine K_bx 25 ?_); refine W.box _ rfl m64 rfl ?_
   | (with_reducible refine K_bx 28 ?_); refine W.box _ rfl m64 rfl ?_
   | (with_reducible refine K_bx 31 ?_); refine W.box _ rfl m64 rfl ?_
   | (with_reducible refine K_bx 57 ?_); refine W.box _ rfl m64 rfl ?_
   | (with_reducible refine K_bx 59 ?_); refine W.box _ rfl m64 rfl ?_
   | (with_reducible refine K_bx 73 ?_); refine W.box _ rfl m64 rfl ?_
   | (with_reducible refine K_bx 104 ?_); refine W.box _ rfl m64 rfl ?_
   | (with_reducible refine K_bx 130 ?_); refine W.box _ rfl m64 rfl ?_
   | (with_reducible refine K_bx 143 ?_); refine W.box _ rfl m64 rfl ?_
   | (with_reducible refine K_bx 245 ?_); refine W.box _ rfl m64 rfl ?_
   | (with_reducible refine K_bx 286 ?_); refine W.box _ rfl m64 rfl ?_
   | (with_reducible refine K_bx 291 ?_); refine W.box _ rfl m64 rfl ?_
   | (with_reducible refine K_bx 417 ?_); refine W.box _ rfl m64 rfl ?_
   | (with_reducible refine K_bx 425 ?_); refine W.box _ rfl m64 rfl ?_))
  | ((with_reducible refine K_un _ ?_); (first
   | (with_reducible refine K_un .not ?_); (first
    | refine W.notL (b' := true) rfl rfl rfl ?_
    | refine W.notL (b' := false) rfl rfl rfl ?_
    | refine W.notP rfl rfl ?_
    | refine W.not rfl rfl ?_)
   | (with_reducible refine K_un .xor ?_); refine W.compl rfl rfl ?_))
  | ((with_reducible refine K_pk ?_); (first
   | refine W.pickT rfl rfl rfl ?_
   | refine W.pickF rfl rfl rfl ?_))
  | ((with_reducible refine K_bu _ _ ?_); (first
   | (with_reducible refine K_bu .min 3 ?_); refine W.minI rfl rfl rfl rfl ?_
   | (with_reducible refine K_bu .len 9 ?_); refine W.slen rfl Tryz.underlying9 rfl ?_
   | (with_reducible refine K_bu .len 22 ?_); (first
    | refine W.len rfl el22 rfl rfl lInts ?_
    | refine W.len rfl el22 rfl rfl rfl ?_)
   | (with_reducible refine K_bu .len 23 ?_); (first
    | refine W.len rfl el23 rfl rfl lTabs ?_
    | refine W.len rfl el23 rfl rfl rfl ?_)
   | (with_reducible refine K_bu .len 26 ?_); (first
    | refine W.len rfl el26 rfl rfl lSteps ?_
    | refine W.len rfl el26 rfl rfl rfl ?_)
   | (with_reducible refine K_bu .len 29 ?_); (first
    | refine W.len rfl el29 rfl rfl lSets ?_
    | refine W.len rfl el29 rfl rfl rfl ?_)
   | (with_reducible refine K_bu .len 40 ?_); refine W.len rfl el40 rfl rfl rfl ?_
   | (with_reducible refine K_bu .len 55 ?_); (first
    | refine W.len rfl el55 rfl rfl lSets ?_
    | refine W.len rfl el55 rfl rfl rfl ?_)
   | (with_reducible refine K_bu .len 62 ?_); (first
    | refine W.len rfl el62 rfl rfl lReps ?_
    | refine W.len rfl el62 rfl rfl rfl ?_)
   | (with_reducible refine K_bu .len 80 ?_); refine W.len rfl el80 rfl rfl rfl ?_
   | (with_reducible refine K_bu .len 128 ?_); (first
    | refine W.len rfl el128 rfl rfl lMat ?_
    | refine W.len rfl el128 rfl rfl rfl ?_)
   | (with_reducible refine K_bu .len 131 ?_); (first
    | refine W.len rfl el131 rfl rfl lBools ?_
    | refine W.len rfl el131 rfl rfl rfl ?_)
   | (with_reducible refine K_bu .len 239 ?_); (first
    | refine W.len rfl el239 rfl rfl lEnts ?_
    | refine W.len rfl el239 rfl rfl rfl ?_)
   | (with_reducible refine K_bu .len 278 ?_); (first
    | refine W.len rfl el278 rfl rfl lMixes ?_
    | refine W.len rfl el278 rfl rfl rfl ?_)
   | (with_reducible refine K_bu .len 281 ?_); (first
    | refine W.len rfl el281 rfl rfl lConfs ?_
    | refine W.len rfl el281 rfl rfl rfl ?_)
   | (with_reducible refine K_bu .len 399 ?_); (first
    | refine W.len rfl el399 rfl rfl lSigs ?_
    | refine W.len rfl el399 rfl rfl rfl ?_)))
  | ((with_reducible refine K_ex ?_); refine W.extract rfl rfl rfl ?_)
  | ((with_reducible refine K_al _ ?_); (first
   | (with_reducible refine K_al 25 ?_); refine W.alloc _ rfl m64 zr25 ?_
   | (with_reducible refine K_al 31 ?_); refine W.alloc _ rfl m64 zr31 ?_
   | (with_reducible refine K_al 57 ?_); refine W.alloc _ rfl m64 zr57 ?_
   | (with_reducible refine K_al 59 ?_); refine W.alloc _ rfl m64 zr59 ?_
   | (with_reducible refine K_al 90 ?_); refine W.alloc _ rfl m64 zr90 ?_
   | (with_reducible refine K_al 104 ?_); refine W.alloc _ rfl m64 zr104 ?_
   | (with_reducible refine K_al 130 ?_); refine W.alloc _ rfl m64 zr130 ?_
   | (with_reducible refine K_al 180 ?_); refine W.alloc _ rfl m64 zr180 ?_
   | (with_reducible refine K_al 196 ?_); refine W.alloc _ rfl m64 zr196 ?_
   | (with_reducible refine K_al 245 ?_); refine W.alloc _ rfl m64 zr245 ?_
   | (with_reducible refine K_al 286 ?_); refine W.alloc _ rfl m64 zr286 ?_
   | (with_reducible refine K_al 349 ?_); refine W.alloc _ rfl m64 zr349 ?_
   | (with_reducible refine K_al 425 ?_); refine W.alloc _ rfl m64 zr425 ?_))
  | ((with_reducible refine K_bd _ ?_); (first
   | (with_reducible refine K_bd 25 ?_); refine W.build (cs2 := [_, _, _, _]) rfl pl25 rfl rfl ?_
   | (with_reducible refine K_bd 28 ?_); refine W.build (cs2 := [_, _, _, _, _, _, _]) rfl pl28 rfl rfl ?_
   | (with_reducible refine K_bd 31 ?_); refine W.build (cs2 := [_, _, _, _, _, _, _, _]) rfl pl31 rfl rfl ?_
   | (with_reducible refine K_bd 57 ?_); refine W.build (cs2 := [_, _, _]) rfl pl57 rfl rfl ?_
   | (with_reducible refine K_bd 59 ?_); refine W.build (cs2 := [_, _, _, _, _, _, _, _, _]) rfl pl59 rfl rfl ?_
   | (with_reducible refine K_bd 66 ?_); refine W.build (cs2 := [_, _, _]) rfl pl66 rfl rfl ?_
   | (with_reducible refine K_bd 67 ?_); refine W.build (cs2 := [_, _]) rfl pl67 rfl rfl ?_
   | (with_reducible refine K_bd 68 ?_); refine W.build (cs2 := [_, _, _, _, _, _, _, _, _, _, _, _, _, _, _, _, _, _]) rfl pl68 rfl rfl ?_
   | (with_reducible refine K_bd 73 ?_); refine W.build (cs2 := [_, _, _, _, _, _, _, _, _, _, _, _, _, _, _, _, _, _, _, _, _, _, _, _, _, _, _, _, _, _, _, _, _, _, _, _, _, _]) rfl pl73 rfl rfl ?_
   | (with_reducible refine K_bd 76 ?_); refine W.build (cs2 := [_, _, _]) rfl pl76 rfl rfl ?_
   | (with_reducible refine K_bd 104 ?_); refine W.build (cs2 := [_, _, _]) rfl pl104 rfl rfl ?_
   | (with_reducible refine K_bd 138 ?_); refine W.build (cs2 := [_, _, _, _]) rfl pl138 rfl rfl ?_
   | (with_reducible refine K_bd 143 ?_); refine W.build (cs2 := [_, _, _, _, _, _, _, _, _, _, _, _, _, _, _, _, _, _, _, _, _, _, _, _, _, _, _, _, _, _, _, _, _, _, _, _, _, _]) rfl pl143 rfl rfl ?_
   | (with_reducible refine K_bd 180 ?_); refine W.build (cs2 := [_, _, _]) rfl pl180 rfl rfl ?_
   | (with_reducible refine K_bd 196 ?_); refine W.build (cs2 := [_, _, _]) rfl pl196 rfl rfl ?_
   | (with_reducible refine K_bd 286 ?_); refine W.build (cs2 := [_, _, _, _]) rfl pl286 rfl rfl ?_
   | (with_reducible refine K_bd 291 ?_); refine W.build (cs2 := [_, _, _, _, _, _, _, _, _, _, _, _, _, _]) rfl pl291 rfl rfl ?_
   | (with_reducible refine K_bd 303 ?_); refine W.build (cs2 := [_, _, _, _, _, _, _, _, _, _]) rfl pl303 rfl rfl ?_
   | (with_reducible refine K_bd 417 ?_); refine W.build (cs2 := [_, _, _, _, _, _, _, _, _, _, _, _, _, _, _]) rfl pl417 rfl rfl ?_
   | (with_reducible refine K_bd 425 ?_); refine W.build (cs2 := [_, _, _, _, _, _]) rfl pl425 rfl rfl ?_))
  | ((with_reducible refine K_nc ?_); refine W.nilCheck rfl rfl rfl ?_)
  | ((with_reducible refine K_bs _ ?_); (first
   | (with_reducible refine K_bs 22 ?_); (first
    | refine W.bs (rows := [[_]]) _ rfl m64 ef22 rfl rfl rfl ?_
    | refine W.bs (rows := []) _ rfl m64 ef22 rfl rfl rfl ?_
    | refine W.bs (rows := [[_], [_], [_]]) _ rfl m64 ef22 rfl rfl rfl ?_)
   | (with_reducible refine K_bs 26 ?_); (first
    | refine W.bs (rows := [[_, _, _], [_, _, _]]) _ rfl m64 ef26 rfl rfl rfl ?_
    | refine W.bs (rows := []) _ rfl m64 ef26 rfl rfl rfl ?_)
   | (with_reducible refine K_bs 29 ?_); (first
    | refine W.bs (rows := []) _ rfl m64 ef29 rfl rfl rfl ?_
    | refine W.bs (rows := [[_]]) _ rfl m64 ef29 rfl rfl rfl ?_
    | refine W.bs (rows := [[_], [_]]) _ rfl m64 ef29 rfl rfl rfl ?_)
   | (with_reducible refine K_bs 55 ?_); (first
    | refine W.bs (rows := [[_]]) _ rfl m64 ef55 rfl rfl rfl ?_
    | refine W.bs (rows := []) _ rfl m64 ef55 rfl rfl rfl ?_)
   | (with_reducible refine K_bs 62 ?_); refine W.bs (rows := [[_, _, _, _]]) _ rfl m64 ef62 rfl rfl rfl ?_
   | (with_reducible refine K_bs 70 ?_); refine W.bs (rows := [[_, _, _]]) _ rfl m64 ef70 rfl rfl rfl ?_
   | (with_reducible refine K_bs 71 ?_); refine W.bs (rows := [[_]]) _ rfl m64 ef71 rfl rfl rfl ?_
   | (with_reducible refine K_bs 80 ?_); refine W.bs (rows := [[_]]) _ rfl m64 ef80 rfl rfl rfl ?_
   | (with_reducible refine K_bs 239 ?_); refine W.bs (rows := [[_, _, _, _]]) _ rfl m64 ef239 rfl rfl rfl ?_
   | (with_reducible refine K_bs 278 ?_); refine W.bs (rows := [[_, _, _]]) _ rfl m64 ef278 rfl rfl rfl ?_
   | (with_reducible refine K_bs 281 ?_); refine W.bs (rows := [[_, _, _]]) _ rfl m64 ef281 rfl rfl rfl ?_
   | (with_reducible refine K_bs 299 ?_); refine W.bs (rows := [[_, _, _, _, _, _, _, _, _, _]]) _ rfl m64 ef299 rfl rfl rfl ?_
   | (with_reducible refine K_bs 399 ?_); refine W.bs (rows := [[_, _, _, _, _, _, _]]) _ rfl m64 ef399 rfl rfl rfl ?_))
  | ((with_reducible refine K_cv _ _ ?_); (first
   | (with_reducible refine K_cv 3 5 ?_); (first
    | refine W.conv rfl ik3 ik5 rfl (wr_u8 ?_) ?_; (focus (clear q; omega))
    | refine W.conv rfl ik3 ik5 rfl rfl ?_)
   | (with_reducible refine K_cv 5 214 ?_); (first
    | refine W.conv rfl ik5 ik214 rfl (wrap_u64 ?_) ?_; (focus (clear q; omega))
    | refine W.conv rfl ik5 ik214 rfl rfl ?_)
   | (with_reducible refine K_cv 5 232 ?_); (first
    | refine W.conv rfl ik5 ik232 rfl (wrap_u32 ?_) ?_; (focus (clear q; omega))
    | refine W.conv rfl ik5 ik232 rfl rfl ?_)
   | (with_reducible refine K_cv 214 2 ?_); (first
    | refine W.conv rfl ik214 ik2 rfl (wrapI ?_) ?_; (focus (clear q; omega))
    | refine W.conv rfl ik214 ik2 rfl rfl ?_)
   | (with_reducible refine K_cv 214 3 ?_); (first
    | refine W.conv rfl ik214 ik3 rfl (wrapI ?_) ?_; (focus (clear q; omega))
    | refine W.conv rfl ik214 ik3 rfl rfl ?_)))
  | ((with_reducible refine K_fd _ _ ?_); (with_reducible refine K_fd 104 1 ?_); refine W.field rfl fd104_1.h rfl rfl ?_))))
 | (repeat1' (with_reducible (first | refine JL.seq ?_ | refine JL.skip ?_ | refine JL.exit ?_ | refine JL.ret ?_ | refine JL.nil ?_ | refine outOf_normal ?_ | refine outOf_same ?_ | refine outOf_other rfl ?_ | refine outOf_ret ?_ | refine thenL_normal ?_ | refine thenL_exit ?_ | refine thenL_ret ?_ | refine roundOf_exit ?_ | refine roundOf_ret ?_)))
 | (with_reducible refine C_at ?_); (first | refine JL.condT rfl ?_ | refine JL.condF rfl ?_)
 | (with_reducible refine rg ?_ ?_); (focus exact rfl))
 exact q) : P := h q
theorem wB {P Q R : Prop} (q : Q) (r : R) (h : Q → R → P := by
 intro q r
 (with_reducible refine W_at ?_)
 (first
  | ((with_reducible refine K_ld _ ?_); refine x2ld ?_ ?_)
  | ((with_reducible refine K_bn _ _ ?_); refine x2bn ?_ ?_)
  | ((with_reducible refine K_st _ ?_); refine x2st ?_ ?_)
  | ((with_reducible refine K_bu _ _ ?_); refine x2bu ?_ ?_)
  | ((with_reducible refine K_ix _ ?_); refine x2ix ?_ ?_)
  | ((with_reducible refine K_mk _ ?_); refine x2mk ?_ ?_)
  | ((with_reducible refine K_sl _ ?_); (first
   | (with_reducible refine K_sl 9 ?_); (first
    | refine W.sslL rfl Tryz.underlying9 rfl rfl ?_ ?_
    | refine W.sslLH rfl Tryz.underlying9 rfl rfl rfl ?_ ?_)
   | (with_reducible refine K_sl 22 ?_); refine W.slice rfl el22 rfl rfl rfl ?_ nInts ?_))
  | ((with_reducible refine K_in _ ?_); (with_reducible refine K_in 9 ?_); (first
   | refine W.sidxN rfl Tryz.underlying9 rfl rfl ?_ ?_
   | refine W.sidx rfl Tryz.underlying9 rfl rfl ?_ ?_)))
 exact q
 exact r) : P := h q r
theorem wC {P Q R : Prop} (q : Q) (r : R) (h : Q → R → P := by
 intro q r
 (first
 | (with_reducible refine C_at ?_); (first | refine JL.condN rfl ?_ ?_ | refine JL.condP rfl ?_ ?_ | refine JL.cond rfl ?_ ?_)
 | (with_reducible refine W_at ?_); (with_reducible refine K_g ?_); (first | refine W.gSN rfl rfl ?_ ?_ | refine W.gS rfl rfl ?_ ?_ | refine W.gSB rfl rfl ?_ ?_))
 exact q
 exact r) : P := h q r
theorem kA {P : Prop} (h : P := by
 (first
 | (with_reducible (first | exact chkT_nil | exact chkB_nil | exact avTo_dead | exact avTo_un | exact cellsTo_nl | exact cellTo_same | exact cellTo_zz))
 | (with_reducible refine avTo_tup ?_); (focus rfl)
 | (with_reducible refine CS_at ?_); exact cellsTo_same rfl
 | (with_reducible refine CE_at ?_); (first | exact cellTo_ow rfl | exact cellTo_pt rfl)
 | (with_reducible rfl)
 | (refine ND.mk ?_; kernel_rfl))) : P := h
theorem kB {P Q : Prop} (q : Q) (h : Q → P := by
 intro q
 (first
 | (with_reducible (first | refine chkB_none ?_ | refine avTo_w ?_ | refine boxTo_stw ?_ | refine boxTo_slw ?_ | refine boxTo_fzw ?_))
 | (with_reducible refine T_at ?_); refine chkT_skip rfl ?_
 | (with_reducible refine B_at ?_); refine chkB_skip rfl ?_
 | (with_reducible refine CE_at ?_); (first | refine cellTo_int ?_ | refine cellTo_bool ?_ | refine cellTo_str ?_ | refine cellTo_sl ?_ | refine cellTo_zd ?_ | refine cellTo_fz rfl ?_))
 exact q) : P := h q
theorem kC {P Q R : Prop} (q : Q) (r : R) (h : Q → R → P := by
 intro q r
 (first
 | (with_reducible refine T_at ?_); refine chkT_cons rfl ?_ rfl ?_
 | (with_reducible refine B_at ?_); refine chkB_cons rfl ?_ rfl rfl ?_
 | (with_reducible refine cellsTo_cn ?_ ?_)
 | (with_reducible refine CS_at ?_); refine cellsTo_cn ?_ ?_)
 exact q
 exact r) : P := h q r
theorem kD {P : Prop} (h : P := by
 (with_reducible refine CE_at ?_)
 exact cellTo_rn rfl) : P := h
theorem oA {P : Prop} (h : P := by
 (first
 | exact OutVs.nil
 | exact OutCs.nil
 | with_reducible exact OutC.d rfl
 | exact OutC.zz
 | exact OutC.rp
 | with_reducible rfl)) : P := h
theorem oB {P Q : Prop} (q : Q) (h : Q → P := by
 intro q
 (first | refine OutC.int ?_ | refine OutC.bool ?_ | refine OutC.sl ?_ | refine OutC.own rfl ?_ | refine OutC.fz rfl ?_ | refine OutC.zero ?_ | refine OutC.d ?_)
 exact q) : P := h q
theorem oC {P Q R : Prop} (q : Q) (r : R) (h : Q → R → P := by
 intro q r
 (first | refine OutVs.cons ?_ ?_ | refine OutCs.cons ?_ ?_)
 exact q
 exact r) : P := h q r
theorem RC_at {a t : Nat} {l : List ResultVar} {vs : List (Bool × List C)} [LdC t] (h : ResW Tryz.prog tm bo (.cell a t :: l) vs) : ResW Tryz.prog tm bo (.cell a t :: l) vs := h
theorem RA_at {a t : Nat} {l : List ResultVar} {vs : List (Bool × List C)} (n : Nat) [LdA t n] (h : ResW Tryz.prog tm bo (.cell a t :: l) vs) : ResW Tryz.prog tm bo (.cell a t :: l) vs := h
theorem eW {fn : Func} {args : List Arg} {vs : List (Bool × List C)} {l : List ResultVar} {ys : List (Bool × List C)} (hfr : fn.results = l.toArray) (ho : OutVs (lko bo) vs ys) (hr : ResW Tryz.prog tm bo l vs := by
 (repeat' (first | exact ResW.nil | refine ResW.tmp rfl ?_ | (refine RC_at ?_; refine ResW.cell LdC.h rfl rfl rfl ?_) | (refine RA_at 3 ?_; refine ResW.cellA (cs' := [_, _, _]) (LdA.h (n := 3)) rfl rfl rfl ?_) | (refine RA_at 4 ?_; refine ResW.cellA (cs' := [_, _, _, _]) (LdA.h (n := 4)) rfl rfl rfl ?_) | (refine RA_at 6 ?_; refine ResW.cellA (cs' := [_, _, _, _, _, _]) (LdA.h (n := 6)) rfl rfl rfl ?_) | (refine RA_at 7 ?_; refine ResW.cellA (cs' := [_, _, _, _, _, _, _]) (LdA.h (n := 7)) rfl rfl rfl ?_) | (refine RA_at 8 ?_; refine ResW.cellA (cs' := [_, _, _, _, _, _, _, _]) (LdA.h (n := 8)) rfl rfl rfl ?_) | (refine RA_at 9 ?_; refine ResW.cellA (cs' := [_, _, _, _, _, _, _, _, _]) (LdA.h (n := 9)) rfl rfl rfl ?_) | (refine RA_at 11 ?_; refine ResW.cellA (cs' := [_, _, _, _, _, _, _, _, _, _, _]) (LdA.h (n := 11)) rfl rfl rfl ?_)))) (hio : args.all (fun a => !isIo a) = true := by exact rfl) : FinW Tryz.prog fn args { vals := ys } .ret ⟨tm, clean bo, nx⟩ := endW hfr hr ho hio
theorem eO {fn : Func} {args : List Arg} {vs : List (Bool × List C)} {l : List ResultVar} {ax : AX} {r : ARes} (hfr : fn.results = l.toArray) (h : outO (clean bo) vs args = some r) (hax : ax = .ret ∨ (ax = .normal ∧ l = []) := by
 (first | exact .inl rfl | exact .inr ⟨rfl, rfl⟩)) (hr : ResW Tryz.prog tm bo l vs := by
 (repeat' (first | exact ResW.nil | refine ResW.tmp rfl ?_ | (refine RC_at ?_; refine ResW.cell LdC.h rfl rfl rfl ?_) | (refine RA_at 3 ?_; refine ResW.cellA (cs' := [_, _, _]) (LdA.h (n := 3)) rfl rfl rfl ?_) | (refine RA_at 4 ?_; refine ResW.cellA (cs' := [_, _, _, _]) (LdA.h (n := 4)) rfl rfl rfl ?_) | (refine RA_at 6 ?_; refine ResW.cellA (cs' := [_, _, _, _, _, _]) (LdA.h (n := 6)) rfl rfl rfl ?_) | (refine RA_at 7 ?_; refine ResW.cellA (cs' := [_, _, _, _, _, _, _]) (LdA.h (n := 7)) rfl rfl rfl ?_) | (refine RA_at 8 ?_; refine ResW.cellA (cs' := [_, _, _, _, _, _, _, _]) (LdA.h (n := 8)) rfl rfl rfl ?_) | (refine RA_at 9 ?_; refine ResW.cellA (cs' := [_, _, _, _, _, _, _, _, _]) (LdA.h (n := 9)) rfl rfl rfl ?_) | (refine RA_at 11 ?_; refine ResW.cellA (cs' := [_, _, _, _, _, _, _, _, _, _, _]) (LdA.h (n := 11)) rfl rfl rfl ?_)))) : FinO Tryz.prog fn args r ax ⟨tm, clean bo, nx⟩ := by
 rcases hax with rfl | ⟨rfl, rfl⟩
 ·exact endO1 hfr hr h
 ·exact endO1n hfr hr h
theorem oM {P : Prop} (h : P := by
 (first
 | omega
 | (simp only [IntKind.bits, List.length_append, List.length_cons, List.length_nil, List.length_map, List.length_take, List.length_drop, List.length_replicate, List.length_range, List.length_set, lInts, lSets, lBools, lMat, lTabs, lMixes, lSteps, lNodes, lConfs, lEnts, lActs, lCtls, lSigs, lReps]; omega))) : P := h
theorem zC {P Q K : Prop} (c : K) (q : Q) (h : K → Q → P := by
 intro c q
 (first | refine W.call0A rfl BoC.h c rfl rfl rfl ?_ | refine W.call0T rfl BoC.h c rfl rfl rfl ?_ | refine W.call1A rfl BoC.h c rfl rfl rfl rfl rfl ?_ | refine W.call1T rfl BoC.h c rfl rfl rfl rfl rfl ?_)
 exact q) : P := h c q
theorem zS {P Q K : Prop} (c : K) (q : Q) (h : K → Q → P := by
 intro c q
 (first | refine W.callS _ rfl m64 BoC.h c rfl rfl ?_ | refine W.callS1 _ rfl m64 BoC.h c rfl rfl rfl rfl ?_)
 exact q) : P := h c q
theorem zK {P Q K : Prop} (c : K) (q : Q) (h : K → Q → P := by
 intro c q
 (first | refine W.callK rfl BoC.h c rfl rfl rfl rfl rfl rfl rfl rfl rfl rfl rfl rfl rfl rfl ?_)
 exact q) : P := h c q
end Go.Proofs.YtfnljcallbalgaaGreatDoor

