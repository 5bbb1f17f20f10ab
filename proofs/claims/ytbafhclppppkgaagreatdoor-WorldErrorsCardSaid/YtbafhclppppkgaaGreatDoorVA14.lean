/- Rules of runs and contracts of functions, for the claims of one seat. -/
import Derived.Test.YtbafhclppppkgaaGreatDoorVA12
import Derived.Test.YtbafhclppppkgaaGreatDoorVA13
namespace Go.Proofs.YtbafhclppppkgaaGreatDoor
open Go Go.RowKit
set_option linter.unusedVariables false
set_option maxRecDepth 100000
theorem m64 {i k : Nat} (h : i * 64 = k := by
 (first | (simp only [Nat.reduceAdd, Nat.reduceMul]; done) | (simp only [Nat.reduceAdd, Nat.reduceMul]; exact rfl))) : i * 64 = k := h
variable {N : Nat} {dr : Bool} {cs : List Code} {R : AX → St → Prop} {tm : List (Nat × AV)} {bo : BO} {nx : Nat} {ops : Array Oper} {i : Nat} {os : List Oper} {ns : List Note} {d : Nat} {pos : String} {ty : TypeId} {af : Array Edge} {lend : FuncId → Bool}
theorem K_la {t : TypeId} {x : Operand} (n : Nat) [LdA t n] (h : W Tryz.prog lend N ops dr cs R i (⟨some d, .load t x, ty, pos, af, none⟩ :: os) tm bo nx ns) : W Tryz.prog lend N ops dr cs R i (⟨some d, .load t x, ty, pos, af, none⟩ :: os) tm bo nx ns := h
theorem W.la {t : TypeId} {x : Operand} {c : C} {cs' cs2 : List C} {off n : Nat} [hl : LdA t n] (hd : Nat.blt d N = true) (hx : (ev (lk tm) x).bind slot1 = some c) (hb : behind (lko bo) c = some (cs', off)) (hc : subC off n cs' = some cs2) (h : W Tryz.prog lend N ops dr cs R (i + 1) os ((d, .one true cs2) :: tm) bo nx (ns ++ [⟨opKeys (lk tm) (lko bo) ⟨some d, .load t x, ty, pos, af, none⟩, []⟩])) : W Tryz.prog lend N ops dr cs R i (⟨some d, .load t x, ty, pos, af, none⟩ :: os) tm bo nx ns := W.loadA hd hl.h hx hb hc h
theorem F_at {P : Program} {fn : Func} {args : List Arg} {r : ARes} {ax : AX} {st : St} (h : FinW P fn args r ax st) : FinW P fn args r ax st := h
theorem FO_at {P : Program} {fn : Func} {args : List Arg} {r : ARes} {ax : AX} {st : St} (h : FinO P fn args r ax st) : FinO P fn args r ax st := h
theorem x2ld {P Q R : Prop} (q : Q) (r : R) (h : Q → R → P := by
 intro q r
 (first
  | (with_reducible refine K_ld 2 ?_); (first
   | refine W.load rfl ld2.h rfl (behind_el rfl (zInts ?_)) rfl ?_
   | refine W.load rfl ld2.h rfl (behind_el rfl (zSteps ?_)) rfl ?_
   | refine W.load rfl ld2.h rfl (behind_el rfl (zTabs ?_)) rfl ?_
   | refine W.load rfl ld2.h rfl (behind_el rfl (zActs ?_)) rfl ?_)
  | (with_reducible refine K_ld 3 ?_); (first
   | refine W.load rfl ld3.h rfl (behind_el rfl (zInts ?_)) rfl ?_
   | refine W.load rfl ld3.h rfl (behind_el rfl (zSets ?_)) rfl ?_
   | refine W.load rfl ld3.h rfl (behind_el rfl (zTabs ?_)) rfl ?_
   | refine W.load rfl ld3.h rfl (behind_el rfl (zSteps ?_)) rfl ?_
   | refine W.load rfl ld3.h rfl (behind_el rfl (zBools ?_)) rfl ?_
   | refine W.load rfl ld3.h rfl (behind_el rfl (zMat ?_)) rfl ?_
   | refine W.load rfl ld3.h rfl (behind_el rfl (zMixes ?_)) rfl ?_
   | refine W.load rfl ld3.h rfl (behind_el rfl (zConfs ?_)) rfl ?_
   | refine W.load rfl ld3.h rfl (behind_el rfl (zActs ?_)) rfl ?_)
  | (with_reducible refine K_ld 4 ?_); (first
   | refine W.load rfl ld4.h rfl (behind_el rfl (zBools ?_)) rfl ?_
   | refine W.load rfl ld4.h rfl (behind_el rfl (zInts ?_)) rfl ?_
   | refine W.load rfl ld4.h rfl (behind_el rfl (zMat ?_)) rfl ?_
   | refine W.load rfl ld4.h rfl (behind_el rfl (zConfs ?_)) rfl ?_
   | refine W.load rfl ld4.h rfl (behind_el rfl (zSets ?_)) rfl ?_
   | refine W.load rfl ld4.h rfl (behind_el rfl (zTabs ?_)) rfl ?_)
  | (with_reducible refine K_ld 22 ?_); (first
   | refine W.load rfl ld22.h rfl (behind_el rfl (zInts ?_)) rfl ?_
   | refine W.load rfl ld22.h rfl (behind_el rfl (zSteps ?_)) rfl ?_
   | refine W.load rfl ld22.h rfl (behind_el rfl (zBools ?_)) rfl ?_
   | refine W.load rfl ld22.h rfl (behind_el rfl (zMat ?_)) rfl ?_
   | refine W.load rfl ld22.h rfl (behind_el rfl (zTabs ?_)) rfl ?_
   | refine W.load rfl ld22.h rfl (behind_el rfl (zSets ?_)) rfl ?_
   | refine W.load rfl ld22.h rfl (behind_el rfl (zMixes ?_)) rfl ?_
   | refine W.load rfl ld22.h rfl (behind_el rfl (zConfs ?_)) rfl ?_)
  | (with_reducible refine K_ld 23 ?_); (first
   | refine W.load rfl ld23.h rfl (behind_el rfl (zBools ?_)) rfl ?_
   | refine W.load rfl ld23.h rfl (behind_el rfl (zInts ?_)) rfl ?_
   | refine W.load rfl ld23.h rfl (behind_el rfl (zMat ?_)) rfl ?_
   | refine W.load rfl ld23.h rfl (behind_el rfl (zTabs ?_)) rfl ?_
   | refine W.load rfl ld23.h rfl (behind_el rfl (zSteps ?_)) rfl ?_
   | refine W.load rfl ld23.h rfl (behind_el rfl (zSets ?_)) rfl ?_
   | refine W.load rfl ld23.h rfl (behind_el rfl (zConfs ?_)) rfl ?_)
  | (with_reducible refine K_ld 25 ?_); (first
   | refine W.loadA (cs2 := [_, _, _, _]) rfl ld25.h rfl (behind_el rfl (zInts ?_)) rfl ?_
   | refine W.loadA (cs2 := [_, _, _, _]) rfl ld25.h rfl (behind_el rfl (zSteps ?_)) rfl ?_
   | refine W.loadA (cs2 := [_, _, _, _]) rfl ld25.h rfl (behind_el rfl (zTabs ?_)) rfl ?_
   | refine W.loadA (cs2 := [_, _, _, _]) rfl ld25.h rfl (behind_el rfl (zSets ?_)) rfl ?_
   | refine W.loadA (cs2 := [_, _, _, _]) rfl ld25.h rfl (behind_el rfl (zConfs ?_)) rfl ?_
   | refine W.loadA (cs2 := [_, _, _, _]) rfl ld25.h rfl (behind_el rfl (zMixes ?_)) rfl ?_
   | refine W.loadA (cs2 := [_, _, _, _]) rfl ld25.h rfl (behind_el rfl (zEnts ?_)) rfl ?_
   | refine W.loadA (cs2 := [_, _, _, _]) rfl ld25.h rfl (behind_el rfl (zSigs ?_)) rfl ?_
   | refine W.loadA (cs2 := [_, _, _, _]) rfl ld25.h rfl (behind_el rfl (zActs ?_)) rfl ?_)
  | (with_reducible refine K_ld 26 ?_); (first
   | refine W.load rfl ld26.h rfl (behind_el rfl (zInts ?_)) rfl ?_
   | refine W.load rfl ld26.h rfl (behind_el rfl (zSteps ?_)) rfl ?_
   | refine W.load rfl ld26.h rfl (behind_el rfl (zTabs ?_)) rfl ?_
   | refine W.load rfl ld26.h rfl (behind_el rfl (zSets ?_)) rfl ?_
   | refine W.load rfl ld26.h rfl (behind_el rfl (zMixes ?_)) rfl ?_)
  | (with_reducible refine K_ld 28 ?_); (first
   | refine W.loadA (cs2 := [_, _, _, _, _, _, _]) rfl ld28.h rfl (behind_el rfl (zInts ?_)) rfl ?_
   | refine W.loadA (cs2 := [_, _, _, _, _, _, _]) rfl ld28.h rfl (behind_el rfl (zSteps ?_)) rfl ?_
   | refine W.loadA (cs2 := [_, _, _, _, _, _, _]) rfl ld28.h rfl (behind_el rfl (zTabs ?_)) rfl ?_)
  | (with_reducible refine K_ld 49 ?_); (first
   | refine W.load rfl ld49.h rfl (behind_el rfl (zBools ?_)) rfl ?_
   | refine W.load rfl ld49.h rfl (behind_el rfl (zInts ?_)) rfl ?_
   | refine W.load rfl ld49.h rfl (behind_el rfl (zMat ?_)) rfl ?_
   | refine W.load rfl ld49.h rfl (behind_el rfl (zTabs ?_)) rfl ?_
   | refine W.load rfl ld49.h rfl (behind_el rfl (zConfs ?_)) rfl ?_
   | refine W.load rfl ld49.h rfl (behind_el rfl (zSets ?_)) rfl ?_)
  | (with_reducible refine K_ld 51 ?_); (first
   | refine W.loadA (cs2 := [_, _, _, _, _, _]) rfl ld51.h rfl (behind_el rfl (zInts ?_)) rfl ?_
   | refine W.loadA (cs2 := [_, _, _, _, _, _]) rfl ld51.h rfl (behind_el rfl (zSets ?_)) rfl ?_
   | refine W.loadA (cs2 := [_, _, _, _, _, _]) rfl ld51.h rfl (behind_el rfl (zTabs ?_)) rfl ?_
   | refine W.loadA (cs2 := [_, _, _, _, _, _]) rfl ld51.h rfl (behind_el rfl (zBools ?_)) rfl ?_
   | refine W.loadA (cs2 := [_, _, _, _, _, _]) rfl ld51.h rfl (behind_el rfl (zMat ?_)) rfl ?_
   | refine W.loadA (cs2 := [_, _, _, _, _, _]) rfl ld51.h rfl (behind_el rfl (zConfs ?_)) rfl ?_)
  | (with_reducible refine K_ld 52 ?_); (first
   | refine W.load rfl ld52.h rfl (behind_el rfl (zBools ?_)) rfl ?_
   | refine W.load rfl ld52.h rfl (behind_el rfl (zInts ?_)) rfl ?_
   | refine W.load rfl ld52.h rfl (behind_el rfl (zMat ?_)) rfl ?_
   | refine W.load rfl ld52.h rfl (behind_el rfl (zTabs ?_)) rfl ?_
   | refine W.load rfl ld52.h rfl (behind_el rfl (zConfs ?_)) rfl ?_
   | refine W.load rfl ld52.h rfl (behind_el rfl (zSets ?_)) rfl ?_)
  | (with_reducible refine K_ld 53 ?_); (first
   | refine W.load rfl ld53.h rfl (behind_el rfl (zInts ?_)) rfl ?_
   | refine W.load rfl ld53.h rfl (behind_el rfl (zSets ?_)) rfl ?_
   | refine W.load rfl ld53.h rfl (behind_el rfl (zTabs ?_)) rfl ?_
   | refine W.load rfl ld53.h rfl (behind_el rfl (zMixes ?_)) rfl ?_
   | refine W.load rfl ld53.h rfl (behind_el rfl (zBools ?_)) rfl ?_
   | refine W.load rfl ld53.h rfl (behind_el rfl (zConfs ?_)) rfl ?_
   | refine W.load rfl ld53.h rfl (behind_el rfl (zMat ?_)) rfl ?_
   | refine W.load rfl ld53.h rfl (behind_el rfl (zSteps ?_)) rfl ?_)
  | (with_reducible refine K_ld 55 ?_); (first
   | refine W.loadA (cs2 := [_, _, _]) rfl ld55.h rfl (behind_el rfl (zSteps ?_)) rfl ?_
   | refine W.loadA (cs2 := [_, _, _]) rfl ld55.h rfl (behind_el rfl (zInts ?_)) rfl ?_
   | refine W.loadA (cs2 := [_, _, _]) rfl ld55.h rfl (behind_el rfl (zSets ?_)) rfl ?_
   | refine W.loadA (cs2 := [_, _, _]) rfl ld55.h rfl (behind_el rfl (zTabs ?_)) rfl ?_
   | refine W.loadA (cs2 := [_, _, _]) rfl ld55.h rfl (behind_el rfl (zConfs ?_)) rfl ?_
   | refine W.loadA (cs2 := [_, _, _]) rfl ld55.h rfl (behind_el rfl (zMixes ?_)) rfl ?_
   | refine W.loadA (cs2 := [_, _, _]) rfl ld55.h rfl (behind_el rfl (zBools ?_)) rfl ?_
   | refine W.loadA (cs2 := [_, _, _]) rfl ld55.h rfl (behind_el rfl (zMat ?_)) rfl ?_)
  | (with_reducible refine K_ld 57 ?_); (first
   | refine W.loadA (cs2 := [_, _, _, _, _, _, _, _, _]) rfl ld57.h rfl (behind_el rfl (zInts ?_)) rfl ?_
   | refine W.loadA (cs2 := [_, _, _, _, _, _, _, _, _]) rfl ld57.h rfl (behind_el rfl (zSteps ?_)) rfl ?_
   | refine W.loadA (cs2 := [_, _, _, _, _, _, _, _, _]) rfl ld57.h rfl (behind_el rfl (zTabs ?_)) rfl ?_
   | refine W.loadA (cs2 := [_, _, _, _, _, _, _, _, _]) rfl ld57.h rfl (behind_el rfl (zEnts ?_)) rfl ?_
   | refine W.loadA (cs2 := [_, _, _, _, _, _, _, _, _]) rfl ld57.h rfl (behind_el rfl (zSigs ?_)) rfl ?_
   | refine W.loadA (cs2 := [_, _, _, _, _, _, _, _, _]) rfl ld57.h rfl (behind_el rfl (zActs ?_)) rfl ?_
   | refine W.loadA (cs2 := [_, _, _, _, _, _, _, _, _]) rfl ld57.h rfl (behind_el rfl (zSets ?_)) rfl ?_)
  | (with_reducible refine K_ld 66 ?_); (first
   | refine W.loadA (cs2 := [_, _, _]) rfl ld66.h rfl (behind_el rfl (zSteps ?_)) rfl ?_
   | refine W.loadA (cs2 := [_, _, _]) rfl ld66.h rfl (behind_el rfl (zInts ?_)) rfl ?_
   | refine W.loadA (cs2 := [_, _, _]) rfl ld66.h rfl (behind_el rfl (zTabs ?_)) rfl ?_
   | refine W.loadA (cs2 := [_, _, _]) rfl ld66.h rfl (behind_el rfl (zMixes ?_)) rfl ?_)
  | (with_reducible refine K_ld 72 ?_); (first
   | refine W.load rfl ld72.h rfl (behind_el rfl (zInts ?_)) rfl ?_
   | refine W.load rfl ld72.h rfl (behind_el rfl (zSteps ?_)) rfl ?_
   | refine W.load rfl ld72.h rfl (behind_el rfl (zTabs ?_)) rfl ?_)
  | (with_reducible refine K_ld 73 ?_); (first
   | refine W.load rfl ld73.h rfl (behind_el rfl (zInts ?_)) rfl ?_
   | refine W.load rfl ld73.h rfl (behind_el rfl (zSteps ?_)) rfl ?_
   | refine W.load rfl ld73.h rfl (behind_el rfl (zTabs ?_)) rfl ?_)
  | (with_reducible refine K_ld 128 ?_); (first
   | refine W.loadA (cs2 := [_, _, _]) rfl ld128.h rfl (behind_el rfl (zSteps ?_)) rfl ?_
   | refine W.loadA (cs2 := [_, _, _]) rfl ld128.h rfl (behind_el rfl (zConfs ?_)) rfl ?_
   | refine W.loadA (cs2 := [_, _, _]) rfl ld128.h rfl (behind_el rfl (zMixes ?_)) rfl ?_)
  | (with_reducible refine K_ld 133 ?_); (first
   | refine W.load rfl ld133.h rfl (behind_el rfl (zBools ?_)) rfl ?_
   | refine W.load rfl ld133.h rfl (behind_el rfl (zConfs ?_)) rfl ?_
   | refine W.load rfl ld133.h rfl (behind_el rfl (zMat ?_)) rfl ?_
   | refine W.load rfl ld133.h rfl (behind_el rfl (zSets ?_)) rfl ?_
   | refine W.load rfl ld133.h rfl (behind_el rfl (zTabs ?_)) rfl ?_
   | refine W.load rfl ld133.h rfl (behind_el rfl (zInts ?_)) rfl ?_)
  | (with_reducible refine K_ld 147 ?_); (first
   | refine W.loadA (cs2 := [_, _, _, _, _, _, _]) rfl ld147.h rfl (behind_el rfl (zSigs ?_)) rfl ?_
   | refine W.loadA (cs2 := [_, _, _, _, _, _, _]) rfl ld147.h rfl (behind_el rfl (zActs ?_)) rfl ?_)
  | (with_reducible refine K_ld 184 ?_); refine W.loadA (cs2 := [_, _, _, _]) rfl ld184.h rfl (behind_el rfl (zEnts ?_)) rfl ?_
  | (with_reducible refine K_ld 185 ?_); (first
   | refine W.load rfl ld185.h rfl (behind_el rfl (zActs ?_)) rfl ?_
   | refine W.load rfl ld185.h rfl (behind_el rfl (zSigs ?_)) rfl ?_)
  | (with_reducible refine K_ld 210 ?_); (first
   | refine W.load rfl ld210.h rfl (behind_el rfl (zMixes ?_)) rfl ?_
   | refine W.load rfl ld210.h rfl (behind_el rfl (zSteps ?_)) rfl ?_)
  | (with_reducible refine K_ld 293 ?_); (first
   | refine W.loadA (cs2 := [_, _, _, _, _, _]) rfl ld293.h rfl (behind_el rfl (zSteps ?_)) rfl ?_
   | refine W.loadA (cs2 := [_, _, _, _, _, _]) rfl ld293.h rfl (behind_el rfl (zMixes ?_)) rfl ?_))
 exact q
 exact r) : P := h q r
theorem x2bn {P Q R : Prop} (q : Q) (r : R) (h : Q → R → P := by
 intro q r
 (first
  | (with_reducible refine K_bn .shl _ ?_); refine W.shl rfl rfl rfl ?_ ?_
  | (with_reducible refine K_bn .shr _ ?_); refine W.shr rfl rfl rfl ?_ ?_
  | (with_reducible refine K_bn .rem _ ?_); refine W.rem rfl rfl rfl ?_ ?_)
 exact q
 exact r) : P := h q r
theorem x2st {P Q R : Prop} (q : Q) (r : R) (h : Q → R → P := by
 intro q r
 (first
  | (with_reducible refine K_st 3 ?_); (first
   | refine W.storeE sz3.h rfl rfl rfl (zSteps ?_) rfl (And.intro rfl (Nat.le_of_ble_eq_true rfl)) wSteps ?_
   | refine W.storeE sz3.h rfl rfl rfl (zInts ?_) rfl (And.intro rfl (Nat.le_of_ble_eq_true rfl)) wInts ?_
   | refine W.storeE sz3.h rfl rfl rfl (zMixes ?_) rfl (And.intro rfl (Nat.le_of_ble_eq_true rfl)) wMixes ?_
   | refine W.storeE sz3.h rfl rfl rfl (zSets ?_) rfl (And.intro rfl (Nat.le_of_ble_eq_true rfl)) wSets ?_
   | refine W.storeE sz3.h rfl rfl rfl (zBools ?_) rfl (And.intro rfl (Nat.le_of_ble_eq_true rfl)) wBools ?_
   | refine W.storeE sz3.h rfl rfl rfl (zMat ?_) rfl (And.intro rfl (Nat.le_of_ble_eq_true rfl)) wMat ?_
   | refine W.storeE sz3.h rfl rfl rfl (zTabs ?_) rfl (And.intro rfl (Nat.le_of_ble_eq_true rfl)) wTabs ?_
   | refine W.storeE sz3.h rfl rfl rfl (zActs ?_) rfl (And.intro rfl (Nat.le_of_ble_eq_true rfl)) wActs ?_)
  | (with_reducible refine K_st 22 ?_); (first
   | refine W.storeE sz22.h rfl rfl rfl (zInts ?_) rfl (And.intro rfl (Nat.le_of_ble_eq_true rfl)) wInts ?_
   | refine W.storeE sz22.h rfl rfl rfl (zSteps ?_) rfl (And.intro rfl (Nat.le_of_ble_eq_true rfl)) wSteps ?_
   | refine W.storeE sz22.h rfl rfl rfl (zTabs ?_) rfl (And.intro rfl (Nat.le_of_ble_eq_true rfl)) wTabs ?_
   | refine W.storeE sz22.h rfl rfl rfl (zSets ?_) rfl (And.intro rfl (Nat.le_of_ble_eq_true rfl)) wSets ?_)
  | (with_reducible refine K_st 25 ?_); (first
   | refine W.storeE sz25.h rfl rfl rfl (zInts ?_) rfl (And.intro rfl (Nat.le_of_ble_eq_true rfl)) wInts ?_
   | refine W.storeE sz25.h rfl rfl rfl (zSteps ?_) rfl (And.intro rfl (Nat.le_of_ble_eq_true rfl)) wSteps ?_)
  | (with_reducible refine K_st 26 ?_); (first
   | refine W.storeE sz26.h rfl rfl rfl (zInts ?_) rfl (And.intro rfl (Nat.le_of_ble_eq_true rfl)) wInts ?_
   | refine W.storeE sz26.h rfl rfl rfl (zSteps ?_) rfl (And.intro rfl (Nat.le_of_ble_eq_true rfl)) wSteps ?_
   | refine W.storeE sz26.h rfl rfl rfl (zTabs ?_) rfl (And.intro rfl (Nat.le_of_ble_eq_true rfl)) wTabs ?_
   | refine W.storeE sz26.h rfl rfl rfl (zSets ?_) rfl (And.intro rfl (Nat.le_of_ble_eq_true rfl)) wSets ?_)
  | (with_reducible refine K_st 28 ?_); (first
   | refine W.storeE sz28.h rfl rfl rfl (zInts ?_) rfl (And.intro rfl (Nat.le_of_ble_eq_true rfl)) wInts ?_
   | refine W.storeE sz28.h rfl rfl rfl (zSteps ?_) rfl (And.intro rfl (Nat.le_of_ble_eq_true rfl)) wSteps ?_)
  | (with_reducible refine K_st 51 ?_); (first
   | refine W.storeE sz51.h rfl rfl rfl (zInts ?_) rfl (And.intro rfl (Nat.le_of_ble_eq_true rfl)) wInts ?_
   | refine W.storeE sz51.h rfl rfl rfl (zSets ?_) rfl (And.intro rfl (Nat.le_of_ble_eq_true rfl)) wSets ?_
   | refine W.storeE sz51.h rfl rfl rfl (zTabs ?_) rfl (And.intro rfl (Nat.le_of_ble_eq_true rfl)) wTabs ?_
   | refine W.storeE sz51.h rfl rfl rfl (zBools ?_) rfl (And.intro rfl (Nat.le_of_ble_eq_true rfl)) wBools ?_
   | refine W.storeE sz51.h rfl rfl rfl (zConfs ?_) rfl (And.intro rfl (Nat.le_of_ble_eq_true rfl)) wConfs ?_
   | refine W.storeE sz51.h rfl rfl rfl (zMat ?_) rfl (And.intro rfl (Nat.le_of_ble_eq_true rfl)) wMat ?_)
  | (with_reducible refine K_st 53 ?_); (first
   | refine W.storeE sz53.h rfl rfl rfl (zInts ?_) rfl (And.intro rfl (Nat.le_of_ble_eq_true rfl)) wInts ?_
   | refine W.storeE sz53.h rfl rfl rfl (zSets ?_) rfl (And.intro rfl (Nat.le_of_ble_eq_true rfl)) wSets ?_
   | refine W.storeE sz53.h rfl rfl rfl (zTabs ?_) rfl (And.intro rfl (Nat.le_of_ble_eq_true rfl)) wTabs ?_)
  | (with_reducible refine K_st 55 ?_); (first
   | refine W.storeE sz55.h rfl rfl rfl (zSteps ?_) rfl (And.intro rfl (Nat.le_of_ble_eq_true rfl)) wSteps ?_
   | refine W.storeE sz55.h rfl rfl rfl (zInts ?_) rfl (And.intro rfl (Nat.le_of_ble_eq_true rfl)) wInts ?_
   | refine W.storeE sz55.h rfl rfl rfl (zSets ?_) rfl (And.intro rfl (Nat.le_of_ble_eq_true rfl)) wSets ?_
   | refine W.storeE sz55.h rfl rfl rfl (zTabs ?_) rfl (And.intro rfl (Nat.le_of_ble_eq_true rfl)) wTabs ?_
   | refine W.storeE sz55.h rfl rfl rfl (zConfs ?_) rfl (And.intro rfl (Nat.le_of_ble_eq_true rfl)) wConfs ?_
   | refine W.storeE sz55.h rfl rfl rfl (zMixes ?_) rfl (And.intro rfl (Nat.le_of_ble_eq_true rfl)) wMixes ?_
   | refine W.storeE sz55.h rfl rfl rfl (zBools ?_) rfl (And.intro rfl (Nat.le_of_ble_eq_true rfl)) wBools ?_
   | refine W.storeE sz55.h rfl rfl rfl (zMat ?_) rfl (And.intro rfl (Nat.le_of_ble_eq_true rfl)) wMat ?_)
  | (with_reducible refine K_st 57 ?_); (first
   | refine W.storeE sz57.h rfl rfl rfl (zInts ?_) rfl (And.intro rfl (Nat.le_of_ble_eq_true rfl)) wInts ?_
   | refine W.storeE sz57.h rfl rfl rfl (zSteps ?_) rfl (And.intro rfl (Nat.le_of_ble_eq_true rfl)) wSteps ?_
   | refine W.storeE sz57.h rfl rfl rfl (zTabs ?_) rfl (And.intro rfl (Nat.le_of_ble_eq_true rfl)) wTabs ?_
   | refine W.storeE sz57.h rfl rfl rfl (zEnts ?_) rfl (And.intro rfl (Nat.le_of_ble_eq_true rfl)) wEnts ?_
   | refine W.storeE sz57.h rfl rfl rfl (zSigs ?_) rfl (And.intro rfl (Nat.le_of_ble_eq_true rfl)) wSigs ?_
   | refine W.storeE sz57.h rfl rfl rfl (zActs ?_) rfl (And.intro rfl (Nat.le_of_ble_eq_true rfl)) wActs ?_
   | refine W.storeE sz57.h rfl rfl rfl (zSets ?_) rfl (And.intro rfl (Nat.le_of_ble_eq_true rfl)) wSets ?_)
  | (with_reducible refine K_st 66 ?_); (first
   | refine W.storeE sz66.h rfl rfl rfl (zSteps ?_) rfl (And.intro rfl (Nat.le_of_ble_eq_true rfl)) wSteps ?_
   | refine W.storeE sz66.h rfl rfl rfl (zInts ?_) rfl (And.intro rfl (Nat.le_of_ble_eq_true rfl)) wInts ?_
   | refine W.storeE sz66.h rfl rfl rfl (zMixes ?_) rfl (And.intro rfl (Nat.le_of_ble_eq_true rfl)) wMixes ?_)
  | (with_reducible refine K_st 72 ?_); (first
   | refine W.storeE sz72.h rfl rfl rfl (zInts ?_) rfl (And.intro rfl (Nat.le_of_ble_eq_true rfl)) wInts ?_
   | refine W.storeE sz72.h rfl rfl rfl (zSteps ?_) rfl (And.intro rfl (Nat.le_of_ble_eq_true rfl)) wSteps ?_
   | refine W.storeE sz72.h rfl rfl rfl (zTabs ?_) rfl (And.intro rfl (Nat.le_of_ble_eq_true rfl)) wTabs ?_)
  | (with_reducible refine K_st 73 ?_); (first
   | refine W.storeE sz73.h rfl rfl rfl (zInts ?_) rfl (And.intro rfl (Nat.le_of_ble_eq_true rfl)) wInts ?_
   | refine W.storeE sz73.h rfl rfl rfl (zSteps ?_) rfl (And.intro rfl (Nat.le_of_ble_eq_true rfl)) wSteps ?_
   | refine W.storeE sz73.h rfl rfl rfl (zTabs ?_) rfl (And.intro rfl (Nat.le_of_ble_eq_true rfl)) wTabs ?_)
  | (with_reducible refine K_st 128 ?_); (first
   | refine W.storeE sz128.h rfl rfl rfl (zSteps ?_) rfl (And.intro rfl (Nat.le_of_ble_eq_true rfl)) wSteps ?_
   | refine W.storeE sz128.h rfl rfl rfl (zConfs ?_) rfl (And.intro rfl (Nat.le_of_ble_eq_true rfl)) wConfs ?_
   | refine W.storeE sz128.h rfl rfl rfl (zMixes ?_) rfl (And.intro rfl (Nat.le_of_ble_eq_true rfl)) wMixes ?_)
  | (with_reducible refine K_st 133 ?_); (first
   | refine W.storeE sz133.h rfl rfl rfl (zInts ?_) rfl (And.intro rfl (Nat.le_of_ble_eq_true rfl)) wInts ?_
   | refine W.storeE sz133.h rfl rfl rfl (zSets ?_) rfl (And.intro rfl (Nat.le_of_ble_eq_true rfl)) wSets ?_
   | refine W.storeE sz133.h rfl rfl rfl (zTabs ?_) rfl (And.intro rfl (Nat.le_of_ble_eq_true rfl)) wTabs ?_
   | refine W.storeE sz133.h rfl rfl rfl (zBools ?_) rfl (And.intro rfl (Nat.le_of_ble_eq_true rfl)) wBools ?_
   | refine W.storeE sz133.h rfl rfl rfl (zMat ?_) rfl (And.intro rfl (Nat.le_of_ble_eq_true rfl)) wMat ?_)
  | (with_reducible refine K_st 147 ?_); (first
   | refine W.storeE sz147.h rfl rfl rfl (zActs ?_) rfl (And.intro rfl (Nat.le_of_ble_eq_true rfl)) wActs ?_
   | refine W.storeE sz147.h rfl rfl rfl (zSigs ?_) rfl (And.intro rfl (Nat.le_of_ble_eq_true rfl)) wSigs ?_)
  | (with_reducible refine K_st 184 ?_); refine W.storeE sz184.h rfl rfl rfl (zEnts ?_) rfl (And.intro rfl (Nat.le_of_ble_eq_true rfl)) wEnts ?_
  | (with_reducible refine K_st 185 ?_); refine W.storeE sz185.h rfl rfl rfl (zActs ?_) rfl (And.intro rfl (Nat.le_of_ble_eq_true rfl)) wActs ?_
  | (with_reducible refine K_st 293 ?_); refine W.storeE sz293.h rfl rfl rfl (zSteps ?_) rfl (And.intro rfl (Nat.le_of_ble_eq_true rfl)) wSteps ?_)
 exact q
 exact r) : P := h q r
theorem x2ix {P Q R : Prop} (q : Q) (r : R) (h : Q → R → P := by
 intro q r
 (first
  | (with_reducible refine K_ix 22 ?_); (first
   | refine W.idx rfl el22 rfl rfl (gIntsN ?_) ?_
   | refine W.idx rfl el22 rfl rfl (gInts ?_) ?_
   | refine W.idxF rfl el22 rfl rfl rfl (gInts ?_) ?_
   | refine W.idxO rfl el22 rfl rfl rfl ?_ ?_)
  | (with_reducible refine K_ix 23 ?_); (first
   | refine W.idx rfl el23 rfl rfl (gTabsN ?_) ?_
   | refine W.idx rfl el23 rfl rfl (gTabs ?_) ?_
   | refine W.idxF rfl el23 rfl rfl rfl (gTabs ?_) ?_
   | refine W.idxO rfl el23 rfl rfl rfl ?_ ?_)
  | (with_reducible refine K_ix 26 ?_); (first
   | refine W.idx rfl el26 rfl rfl (gStepsN ?_) ?_
   | refine W.idx rfl el26 rfl rfl (gSteps ?_) ?_
   | refine W.idxF rfl el26 rfl rfl rfl (gSteps ?_) ?_
   | refine W.idxO rfl el26 rfl rfl rfl ?_ ?_)
  | (with_reducible refine K_ix 49 ?_); (first
   | refine W.idx rfl el49 rfl rfl (gMatN ?_) ?_
   | refine W.idx rfl el49 rfl rfl (gMat ?_) ?_
   | refine W.idxF rfl el49 rfl rfl rfl (gMat ?_) ?_
   | refine W.idxO rfl el49 rfl rfl rfl ?_ ?_)
  | (with_reducible refine K_ix 52 ?_); (first
   | refine W.idx rfl el52 rfl rfl (gBoolsN ?_) ?_
   | refine W.idx rfl el52 rfl rfl (gBools ?_) ?_
   | refine W.idxF rfl el52 rfl rfl rfl (gBools ?_) ?_
   | refine W.idxO rfl el52 rfl rfl rfl ?_ ?_)
  | (with_reducible refine K_ix 53 ?_); (first
   | refine W.idx rfl el53 rfl rfl (gSetsN ?_) ?_
   | refine W.idx rfl el53 rfl rfl (gSets ?_) ?_
   | refine W.idxF rfl el53 rfl rfl rfl (gSets ?_) ?_
   | refine W.idxO rfl el53 rfl rfl rfl ?_ ?_)
  | (with_reducible refine K_ix 173 ?_); (first
   | refine W.idx rfl el173 rfl rfl (gEntsN ?_) ?_
   | refine W.idx rfl el173 rfl rfl (gEnts ?_) ?_
   | refine W.idxF rfl el173 rfl rfl rfl (gEnts ?_) ?_
   | refine W.idxO rfl el173 rfl rfl rfl ?_ ?_)
  | (with_reducible refine K_ix 210 ?_); (first
   | refine W.idx rfl el210 rfl rfl (gMixesN ?_) ?_
   | refine W.idx rfl el210 rfl rfl (gMixes ?_) ?_
   | refine W.idxF rfl el210 rfl rfl rfl (gMixes ?_) ?_
   | refine W.idxO rfl el210 rfl rfl rfl ?_ ?_)
  | (with_reducible refine K_ix 213 ?_); (first
   | refine W.idx rfl el213 rfl rfl (gConfsN ?_) ?_
   | refine W.idx rfl el213 rfl rfl (gConfs ?_) ?_
   | refine W.idxF rfl el213 rfl rfl rfl (gConfs ?_) ?_
   | refine W.idxO rfl el213 rfl rfl rfl ?_ ?_)
  | (with_reducible refine K_ix 269 ?_); (first
   | refine W.idx rfl el269 rfl rfl (gSigsN ?_) ?_
   | refine W.idx rfl el269 rfl rfl (gSigs ?_) ?_
   | refine W.idxF rfl el269 rfl rfl rfl (gSigs ?_) ?_
   | refine W.idxO rfl el269 rfl rfl rfl ?_ ?_))
 exact q
 exact r) : P := h q r
theorem x2bu {P Q R : Prop} (q : Q) (r : R) (h : Q → R → P := by
 intro q r
 (first
  | (with_reducible refine K_bu .append 22 ?_); (first
   | refine W.appO _ rfl m64 ef22 is22 rfl rfl rfl rfl ?_ sInts ?_
   | refine W.appO _ rfl m64 ef22 is22 rfl rfl rfl rfl ?_ aInts ?_
   | refine W.appO _ rfl m64 ef22 is22 rfl rfl rfl rfl ?_ rfl ?_
   | refine W.appZ _ rfl m64 ef22 is22 rfl rfl rfl ?_ oInts ?_
   | refine W.appZ _ rfl m64 ef22 is22 rfl rfl rfl ?_ rfl ?_)
  | (with_reducible refine K_bu .append 26 ?_); (first
   | refine W.appO _ rfl m64 ef26 is26 rfl rfl rfl rfl ?_ sStepsC ?_
   | refine W.appO _ rfl m64 ef26 is26 rfl rfl rfl rfl ?_ aSteps ?_
   | refine W.appO _ rfl m64 ef26 is26 rfl rfl rfl rfl ?_ rfl ?_
   | refine W.appZ _ rfl m64 ef26 is26 rfl rfl rfl ?_ rfl ?_)
  | (with_reducible refine K_bu .append 53 ?_); (first
   | refine W.appO _ rfl m64 ef53 is53 rfl rfl rfl rfl ?_ sSets ?_
   | refine W.appO _ rfl m64 ef53 is53 rfl rfl rfl rfl ?_ aSets ?_
   | refine W.appO _ rfl m64 ef53 is53 rfl rfl rfl rfl ?_ rfl ?_
   | refine W.appZ _ rfl m64 ef53 is53 rfl rfl rfl ?_ oSets ?_
   | refine W.appZ _ rfl m64 ef53 is53 rfl rfl rfl ?_ rfl ?_)
  | (with_reducible refine K_bu .append 60 ?_); (first
   | refine W.appO _ rfl m64 ef60 is60 rfl rfl rfl rfl ?_ sRepsC ?_
   | refine W.appO _ rfl m64 ef60 is60 rfl rfl rfl rfl ?_ aReps ?_
   | refine W.appO _ rfl m64 ef60 is60 rfl rfl rfl rfl ?_ rfl ?_
   | refine W.appZ _ rfl m64 ef60 is60 rfl rfl rfl ?_ rfl ?_)
  | (with_reducible refine K_bu .append 72 ?_); (first
   | refine W.appO _ rfl m64 ef72 is72 rfl rfl rfl rfl ?_ rfl ?_
   | refine W.appZ _ rfl m64 ef72 is72 rfl rfl rfl ?_ rfl ?_)
  | (with_reducible refine K_bu .append 73 ?_); (first
   | refine W.appO _ rfl m64 ef73 is73 rfl rfl rfl rfl ?_ rfl ?_
   | refine W.appZ _ rfl m64 ef73 is73 rfl rfl rfl ?_ rfl ?_)
  | (with_reducible refine K_bu .append 173 ?_); (first
   | refine W.appO _ rfl m64 ef173 is173 rfl rfl rfl rfl ?_ sEntsC ?_
   | refine W.appO _ rfl m64 ef173 is173 rfl rfl rfl rfl ?_ aEnts ?_
   | refine W.appO _ rfl m64 ef173 is173 rfl rfl rfl rfl ?_ rfl ?_
   | refine W.appZ _ rfl m64 ef173 is173 rfl rfl rfl ?_ rfl ?_)
  | (with_reducible refine K_bu .append 185 ?_); (first
   | refine W.appO _ rfl m64 ef185 is185 rfl rfl rfl rfl ?_ sActsC ?_
   | refine W.appO _ rfl m64 ef185 is185 rfl rfl rfl rfl ?_ aActs ?_
   | refine W.appO _ rfl m64 ef185 is185 rfl rfl rfl rfl ?_ rfl ?_
   | refine W.appZ _ rfl m64 ef185 is185 rfl rfl rfl ?_ rfl ?_)
  | (with_reducible refine K_bu .append 210 ?_); (first
   | refine W.appO _ rfl m64 ef210 is210 rfl rfl rfl rfl ?_ sMixesC ?_
   | refine W.appO _ rfl m64 ef210 is210 rfl rfl rfl rfl ?_ aMixes ?_
   | refine W.appO _ rfl m64 ef210 is210 rfl rfl rfl rfl ?_ rfl ?_
   | refine W.appZ _ rfl m64 ef210 is210 rfl rfl rfl ?_ rfl ?_)
  | (with_reducible refine K_bu .append 213 ?_); (first
   | refine W.appO _ rfl m64 ef213 is213 rfl rfl rfl rfl ?_ sConfsC ?_
   | refine W.appO _ rfl m64 ef213 is213 rfl rfl rfl rfl ?_ aConfs ?_
   | refine W.appO _ rfl m64 ef213 is213 rfl rfl rfl rfl ?_ rfl ?_
   | refine W.appZ _ rfl m64 ef213 is213 rfl rfl rfl ?_ rfl ?_))
 exact q
 exact r) : P := h q r
theorem wA {P Q : Prop} (q : Q) (h : Q → P := by
 intro q
 (first
 | (repeat1' ((with_reducible refine W_at ?_); (first
  | ((with_reducible refine K_nl ?_); (first
   | refine W.nil ?_
   | refine W.nilD ?_ ?_; (focus kernel_rfl)))
  | ((with_reducible refine K_mv ?_); refine W.move rfl rfl ?_)
  | ((with_reducible refine K_ld _ ?_); (first
   | refine W.ld rfl rfl rfl rfl ?_
   | (with_reducible refine K_la 3 ?_); refine W.la (n := 3) (cs2 := [_, _, _]) rfl rfl rfl rfl ?_
   | (with_reducible refine K_la 4 ?_); refine W.la (n := 4) (cs2 := [_, _, _, _]) rfl rfl rfl rfl ?_
   | (with_reducible refine K_la 6 ?_); refine W.la (n := 6) (cs2 := [_, _, _, _, _, _]) rfl rfl rfl rfl ?_
   | (with_reducible refine K_la 7 ?_); refine W.la (n := 7) (cs2 := [_, _, _, _, _, _, _]) rfl rfl rfl rfl ?_
   | (with_reducible refine K_la 9 ?_); refine W.la (n := 9) (cs2 := [_, _, _, _, _, _, _, _, _]) rfl rfl rfl rfl ?_))
  | ((with_reducible refine K_fa _ _ ?_); refine W.fa rfl rfl rfl ?_)
  | ((with_reducible refine K_bn _ _ ?_); (first
   | (with_reducible refine K_bn .add _ ?_); refine W.addI rfl rfl rfl ?_ ?_; (focus (clear q; omega))
   | (with_reducible refine K_bn .mul _ ?_); refine W.mulI rfl rfl rfl ?_ ?_; (focus (clear q; omega))
   | (with_reducible refine K_bn .sub _ ?_); refine W.subI rfl rfl rfl ?_ ?_; (focus (clear q; omega))
   | (with_reducible refine K_bn .eql 4 ?_); refine W.eqB rfl ib4 rfl rfl ?_
   | (with_reducible refine K_bn .neq 4 ?_); refine W.neB rfl ib4 rfl rfl ?_
   | refine W.bin rfl rfl rfl rfl ?_))
  | ((with_reducible refine K_st _ ?_); (first
   | refine W.st (cs2 := [_]) rfl rfl rfl rfl ?_
   | refine W.st (cs2 := [_, _, _]) rfl rfl rfl rfl ?_
   | refine W.st (cs2 := [_, _, _, _]) rfl rfl rfl rfl ?_
   | refine W.st (cs2 := [_, _, _, _, _, _]) rfl rfl rfl rfl ?_
   | refine W.st (cs2 := [_, _, _, _, _, _, _]) rfl rfl rfl rfl ?_
   | refine W.st (cs2 := [_, _, _, _, _, _, _, _, _]) rfl rfl rfl rfl ?_
   | refine W.st (cs2 := [_, _, _, _, _, _, _, _, _, _, _, _, _, _]) rfl rfl rfl rfl ?_
   | refine W.st (cs2 := [_, _, _, _, _, _, _, _, _, _, _, _, _, _, _]) rfl rfl rfl rfl ?_
   | refine W.st (cs2 := [_, _, _, _, _, _, _, _, _, _, _, _, _, _, _, _, _, _, _, _, _, _, _, _, _, _, _, _, _, _, _, _, _, _, _, _, _, _]) rfl rfl rfl rfl ?_))
  | ((with_reducible refine K_as ?_); refine W.assign rfl rfl ?_)
  | ((with_reducible refine K_g ?_); (first
   | refine W.gT rfl rfl ?_
   | refine W.gF rfl rfl rfl rfl ?_
   | refine W.gU rfl rfl rfl ?_))
  | ((with_reducible refine K_bx _ ?_); (first
   | (with_reducible refine K_bx 3 ?_); refine W.box _ rfl m64 rfl ?_
   | (with_reducible refine K_bx 25 ?_); refine W.box _ rfl m64 rfl ?_
   | (with_reducible refine K_bx 28 ?_); refine W.box _ rfl m64 rfl ?_
   | (with_reducible refine K_bx 51 ?_); refine W.box _ rfl m64 rfl ?_
   | (with_reducible refine K_bx 55 ?_); refine W.box _ rfl m64 rfl ?_
   | (with_reducible refine K_bx 57 ?_); refine W.box _ rfl m64 rfl ?_
   | (with_reducible refine K_bx 66 ?_); refine W.box _ rfl m64 rfl ?_
   | (with_reducible refine K_bx 75 ?_); refine W.box _ rfl m64 rfl ?_
   | (with_reducible refine K_bx 82 ?_); refine W.box _ rfl m64 rfl ?_
   | (with_reducible refine K_bx 147 ?_); refine W.box _ rfl m64 rfl ?_
   | (with_reducible refine K_bx 184 ?_); refine W.box _ rfl m64 rfl ?_
   | (with_reducible refine K_bx 228 ?_); refine W.box _ rfl m64 rfl ?_
   | (with_reducible refine K_bx 284 ?_); refine W.box _ rfl m64 rfl ?_
   | (with_reducible refine K_bx 293 ?_); refine W.box _ rfl m64 rfl ?_))
  | ((with_reducible refine K_un _ ?_); (first
   | (with_reducible refine K_un .not ?_); (first
    | refine W.notL (b' := true) rfl rfl rfl ?_
    | refine W.notL (b' := false) rfl rfl rfl ?_
    | refine W.notP rfl rfl ?_
    | refine W.not rfl rfl ?_)
   | (with_reducible refine K_un .xor ?_); refine W.compl rfl rfl ?_))
  | ((with_reducible refine K_pk ?_); (first
   | refine W.pickT rfl rfl rfl ?_
   | refine W.pickF rfl rfl rfl ?_))
  | ((with_reducible refine K_bu _ _ ?_); (first
   | (with_reducible refine K_bu .min 3 ?_); refine W.minI rfl rfl rfl rfl ?_
   | (with_reducible refine K_bu .len 9 ?_); refine W.slen rfl Tryz.underlying9 rfl ?_
   | (with_reducible refine K_bu .len 22 ?_); (first
    | refine W.len rfl el22 rfl rfl lInts ?_
    | refine W.len rfl el22 rfl rfl rfl ?_)
   | (with_reducible refine K_bu .len 23 ?_); (first
    | refine W.len rfl el23 rfl rfl lTabs ?_
    | refine W.len rfl el23 rfl rfl rfl ?_)
   | (with_reducible refine K_bu .len 26 ?_); (first
    | refine W.len rfl el26 rfl rfl lSteps ?_
    | refine W.len rfl el26 rfl rfl rfl ?_)
   | (with_reducible refine K_bu .len 49 ?_); (first
    | refine W.len rfl el49 rfl rfl lMat ?_
    | refine W.len rfl el49 rfl rfl rfl ?_)
   | (with_reducible refine K_bu .len 52 ?_); (first
    | refine W.len rfl el52 rfl rfl lBools ?_
    | refine W.len rfl el52 rfl rfl rfl ?_)
   | (with_reducible refine K_bu .len 53 ?_); (first
    | refine W.len rfl el53 rfl rfl lSets ?_
    | refine W.len rfl el53 rfl rfl rfl ?_)
   | (with_reducible refine K_bu .len 60 ?_); (first
    | refine W.len rfl el60 rfl rfl lReps ?_
    | refine W.len rfl el60 rfl rfl rfl ?_)
   | (with_reducible refine K_bu .len 173 ?_); (first
    | refine W.len rfl el173 rfl rfl lEnts ?_
    | refine W.len rfl el173 rfl rfl rfl ?_)
   | (with_reducible refine K_bu .len 210 ?_); (first
    | refine W.len rfl el210 rfl rfl lMixes ?_
    | refine W.len rfl el210 rfl rfl rfl ?_)
   | (with_reducible refine K_bu .len 213 ?_); (first
    | refine W.len rfl el213 rfl rfl lConfs ?_
    | refine W.len rfl el213 rfl rfl rfl ?_)
   | (with_reducible refine K_bu .len 269 ?_); (first
    | refine W.len rfl el269 rfl rfl lSigs ?_
    | refine W.len rfl el269 rfl rfl rfl ?_)))
  | ((with_reducible refine K_ex ?_); refine W.extract rfl rfl rfl ?_)
  | ((with_reducible refine K_al _ ?_); (first
   | (with_reducible refine K_al 25 ?_); refine W.alloc _ rfl m64 zr25 ?_
   | (with_reducible refine K_al 28 ?_); refine W.alloc _ rfl m64 zr28 ?_
   | (with_reducible refine K_al 51 ?_); refine W.alloc _ rfl m64 zr51 ?_
   | (with_reducible refine K_al 55 ?_); refine W.alloc _ rfl m64 zr55 ?_
   | (with_reducible refine K_al 57 ?_); refine W.alloc _ rfl m64 zr57 ?_
   | (with_reducible refine K_al 66 ?_); refine W.alloc _ rfl m64 zr66 ?_
   | (with_reducible refine K_al 105 ?_); refine W.alloc _ rfl m64 zr105 ?_
   | (with_reducible refine K_al 128 ?_); refine W.alloc _ rfl m64 zr128 ?_
   | (with_reducible refine K_al 147 ?_); refine W.alloc _ rfl m64 zr147 ?_
   | (with_reducible refine K_al 184 ?_); refine W.alloc _ rfl m64 zr184 ?_
   | (with_reducible refine K_al 261 ?_); refine W.alloc _ rfl m64 zr261 ?_
   | (with_reducible refine K_al 293 ?_); refine W.alloc _ rfl m64 zr293 ?_))
  | ((with_reducible refine K_bd _ ?_); (first
   | (with_reducible refine K_bd 25 ?_); refine W.build (cs2 := [_, _, _, _]) rfl pl25 rfl rfl ?_
   | (with_reducible refine K_bd 28 ?_); refine W.build (cs2 := [_, _, _, _, _, _, _]) rfl pl28 rfl rfl ?_
   | (with_reducible refine K_bd 55 ?_); refine W.build (cs2 := [_, _, _]) rfl pl55 rfl rfl ?_
   | (with_reducible refine K_bd 57 ?_); refine W.build (cs2 := [_, _, _, _, _, _, _, _, _]) rfl pl57 rfl rfl ?_
   | (with_reducible refine K_bd 66 ?_); refine W.build (cs2 := [_, _, _]) rfl pl66 rfl rfl ?_
   | (with_reducible refine K_bd 68 ?_); refine W.build (cs2 := [_, _, _]) rfl pl68 rfl rfl ?_
   | (with_reducible refine K_bd 69 ?_); refine W.build (cs2 := [_, _]) rfl pl69 rfl rfl ?_
   | (with_reducible refine K_bd 70 ?_); refine W.build (cs2 := [_, _, _, _, _, _, _, _, _, _, _, _, _, _, _, _, _, _]) rfl pl70 rfl rfl ?_
   | (with_reducible refine K_bd 75 ?_); refine W.build (cs2 := [_, _, _, _, _, _, _, _, _, _, _, _, _, _, _, _, _, _, _, _, _, _, _, _, _, _, _, _, _, _, _, _, _, _, _, _, _, _]) rfl pl75 rfl rfl ?_
   | (with_reducible refine K_bd 79 ?_); refine W.build (cs2 := [_, _, _]) rfl pl79 rfl rfl ?_
   | (with_reducible refine K_bd 82 ?_); refine W.build (cs2 := [_, _, _, _, _, _, _, _, _, _, _, _, _, _, _, _, _, _, _, _, _, _, _, _, _, _, _, _, _, _, _, _, _, _, _, _, _, _]) rfl pl82 rfl rfl ?_
   | (with_reducible refine K_bd 98 ?_); refine W.build (cs2 := [_, _, _, _]) rfl pl98 rfl rfl ?_
   | (with_reducible refine K_bd 105 ?_); refine W.build (cs2 := [_, _, _]) rfl pl105 rfl rfl ?_
   | (with_reducible refine K_bd 128 ?_); refine W.build (cs2 := [_, _, _]) rfl pl128 rfl rfl ?_
   | (with_reducible refine K_bd 184 ?_); refine W.build (cs2 := [_, _, _, _]) rfl pl184 rfl rfl ?_
   | (with_reducible refine K_bd 189 ?_); refine W.build (cs2 := [_, _, _, _, _, _, _, _, _, _]) rfl pl189 rfl rfl ?_
   | (with_reducible refine K_bd 228 ?_); refine W.build (cs2 := [_, _, _, _, _, _, _, _, _, _, _, _, _, _]) rfl pl228 rfl rfl ?_
   | (with_reducible refine K_bd 284 ?_); refine W.build (cs2 := [_, _, _, _, _, _, _, _, _, _, _, _, _, _, _]) rfl pl284 rfl rfl ?_
   | (with_reducible refine K_bd 293 ?_); refine W.build (cs2 := [_, _, _, _, _, _]) rfl pl293 rfl rfl ?_))
  | ((with_reducible refine K_bs _ ?_); (first
   | (with_reducible refine K_bs 22 ?_); (first
    | refine W.bs (rows := [[_]]) _ rfl m64 ef22 rfl rfl rfl ?_
    | refine W.bs (rows := []) _ rfl m64 ef22 rfl rfl rfl ?_
    | refine W.bs (rows := [[_], [_], [_]]) _ rfl m64 ef22 rfl rfl rfl ?_)
   | (with_reducible refine K_bs 26 ?_); (first
    | refine W.bs (rows := [[_, _, _], [_, _, _]]) _ rfl m64 ef26 rfl rfl rfl ?_
    | refine W.bs (rows := []) _ rfl m64 ef26 rfl rfl rfl ?_)
   | (with_reducible refine K_bs 53 ?_); (first
    | refine W.bs (rows := [[_]]) _ rfl m64 ef53 rfl rfl rfl ?_
    | refine W.bs (rows := []) _ rfl m64 ef53 rfl rfl rfl ?_)
   | (with_reducible refine K_bs 60 ?_); refine W.bs (rows := [[_, _, _, _]]) _ rfl m64 ef60 rfl rfl rfl ?_
   | (with_reducible refine K_bs 72 ?_); refine W.bs (rows := [[_, _, _]]) _ rfl m64 ef72 rfl rfl rfl ?_
   | (with_reducible refine K_bs 73 ?_); refine W.bs (rows := [[_]]) _ rfl m64 ef73 rfl rfl rfl ?_
   | (with_reducible refine K_bs 173 ?_); refine W.bs (rows := [[_, _, _, _]]) _ rfl m64 ef173 rfl rfl rfl ?_
   | (with_reducible refine K_bs 185 ?_); refine W.bs (rows := [[_, _, _, _, _, _, _, _, _, _]]) _ rfl m64 ef185 rfl rfl rfl ?_
   | (with_reducible refine K_bs 210 ?_); refine W.bs (rows := [[_, _, _]]) _ rfl m64 ef210 rfl rfl rfl ?_
   | (with_reducible refine K_bs 213 ?_); refine W.bs (rows := [[_, _, _]]) _ rfl m64 ef213 rfl rfl rfl ?_
   | (with_reducible refine K_bs 269 ?_); refine W.bs (rows := [[_, _, _, _, _, _, _]]) _ rfl m64 ef269 rfl rfl rfl ?_))
  | ((with_reducible refine K_nc ?_); refine W.nilCheck rfl rfl rfl ?_)
  | ((with_reducible refine K_cv _ _ ?_); (first
   | (with_reducible refine K_cv 5 136 ?_); (first
    | refine W.conv rfl ik5 ik136 rfl (wrap_u32 ?_) ?_; (focus (clear q; omega))
    | refine W.conv rfl ik5 ik136 rfl rfl ?_)
   | (with_reducible refine K_cv 5 139 ?_); (first
    | refine W.conv rfl ik5 ik139 rfl (wrap_u64 ?_) ?_; (focus (clear q; omega))
    | refine W.conv rfl ik5 ik139 rfl rfl ?_)
   | (with_reducible refine K_cv 139 2 ?_); (first
    | refine W.conv rfl ik139 ik2 rfl (wrapI ?_) ?_; (focus (clear q; omega))
    | refine W.conv rfl ik139 ik2 rfl rfl ?_)
   | (with_reducible refine K_cv 139 3 ?_); (first
    | refine W.conv rfl ik139 ik3 rfl (wrapI ?_) ?_; (focus (clear q; omega))
    | refine W.conv rfl ik139 ik3 rfl rfl ?_)))
  | ((with_reducible refine K_fd _ _ ?_); (with_reducible refine K_fd 66 1 ?_); refine W.field rfl fd66_1.h rfl rfl ?_))))
 | (repeat1' (with_reducible (first | refine JL.seq ?_ | refine JL.skip ?_ | refine JL.exit ?_ | refine JL.ret ?_ | refine JL.nil ?_ | refine outOf_normal ?_ | refine outOf_same ?_ | refine outOf_other rfl ?_ | refine outOf_ret ?_ | refine thenL_normal ?_ | refine thenL_exit ?_ | refine thenL_ret ?_ | refine roundOf_exit ?_ | refine roundOf_ret ?_)))
 | (with_reducible refine C_at ?_); (first | refine JL.condT rfl ?_ | refine JL.condF rfl ?_)
 | (with_reducible refine rg ?_ ?_); (focus exact rfl))
 exact q) : P := h q
theorem wB {P Q R : Prop} (q : Q) (r : R) (h : Q → R → P := by
 intro q r
 (with_reducible refine W_at ?_)
 (first
  | ((with_reducible refine K_ld _ ?_); refine x2ld ?_ ?_)
  | ((with_reducible refine K_bn _ _ ?_); refine x2bn ?_ ?_)
  | ((with_reducible refine K_st _ ?_); refine x2st ?_ ?_)
  | ((with_reducible refine K_ix _ ?_); refine x2ix ?_ ?_)
  | ((with_reducible refine K_mk _ ?_); (first
   | (with_reducible refine K_mk 53 ?_); refine W.make _ rfl m64 ef53 ns133 rfl rfl rfl ?_ rSets ?_
   | (with_reducible refine K_mk 73 ?_); refine W.make _ rfl m64 ef73 ns2 rfl rfl rfl ?_ rfl ?_))
  | ((with_reducible refine K_bu _ _ ?_); refine x2bu ?_ ?_)
  | ((with_reducible refine K_sl _ ?_); (first
   | (with_reducible refine K_sl 9 ?_); (first
    | refine W.sslL rfl Tryz.underlying9 rfl rfl ?_ ?_
    | refine W.sslLH rfl Tryz.underlying9 rfl rfl rfl ?_ ?_)
   | (with_reducible refine K_sl 22 ?_); refine W.slice rfl el22 rfl rfl rfl ?_ nInts ?_))
  | ((with_reducible refine K_in _ ?_); (with_reducible refine K_in 9 ?_); (first
   | refine W.sidxN rfl Tryz.underlying9 rfl rfl ?_ ?_
   | refine W.sidx rfl Tryz.underlying9 rfl rfl ?_ ?_)))
 exact q
 exact r) : P := h q r
theorem wC {P Q R : Prop} (q : Q) (r : R) (h : Q → R → P := by
 intro q r
 (first
 | (with_reducible refine C_at ?_); (first | refine JL.condN rfl ?_ ?_ | refine JL.condP rfl ?_ ?_ | refine JL.cond rfl ?_ ?_)
 | (with_reducible refine W_at ?_); (with_reducible refine K_g ?_); (first | refine W.gSN rfl rfl ?_ ?_ | refine W.gS rfl rfl ?_ ?_ | refine W.gSB rfl rfl ?_ ?_))
 exact q
 exact r) : P := h q r
theorem kA {P : Prop} (h : P := by
 (first
 | (with_reducible (first | exact chkT_nil | exact chkB_nil | exact avTo_dead | exact avTo_un | exact cellsTo_nl | exact cellTo_same | exact cellTo_zz))
 | (with_reducible refine avTo_tup ?_); (focus rfl)
 | (with_reducible refine CS_at ?_); exact cellsTo_same rfl
 | (with_reducible refine CE_at ?_); (first | exact cellTo_ow rfl | exact cellTo_pt rfl)
 | (with_reducible rfl)
 | (refine ND.mk ?_; kernel_rfl))) : P := h
theorem kB {P Q : Prop} (q : Q) (h : Q → P := by
 intro q
 (first
 | (with_reducible (first | refine chkB_none ?_ | refine avTo_w ?_ | refine boxTo_stw ?_ | refine boxTo_slw ?_ | refine boxTo_fzw ?_))
 | (with_reducible refine T_at ?_); refine chkT_skip rfl ?_
 | (with_reducible refine B_at ?_); refine chkB_skip rfl ?_
 | (with_reducible refine CE_at ?_); (first | refine cellTo_int ?_ | refine cellTo_bool ?_ | refine cellTo_str ?_ | refine cellTo_sl ?_ | refine cellTo_zd ?_ | refine cellTo_fz rfl ?_))
 exact q) : P := h q
theorem kC {P Q R : Prop} (q : Q) (r : R) (h : Q → R → P := by
 intro q r
 (first
 | (with_reducible refine T_at ?_); refine chkT_cons rfl ?_ rfl ?_
 | (with_reducible refine B_at ?_); refine chkB_cons rfl ?_ rfl rfl ?_
 | (with_reducible refine cellsTo_cn ?_ ?_)
 | (with_reducible refine CS_at ?_); refine cellsTo_cn ?_ ?_)
 exact q
 exact r) : P := h q r
theorem kD {P : Prop} (h : P := by
 (with_reducible refine CE_at ?_)
 exact cellTo_rn rfl) : P := h
theorem oA {P : Prop} (h : P := by
 (first
 | exact OutVs.nil
 | exact OutCs.nil
 | with_reducible exact OutC.d rfl
 | exact OutC.zz
 | exact OutC.rp
 | with_reducible rfl)) : P := h
theorem oB {P Q : Prop} (q : Q) (h : Q → P := by
 intro q
 (first | refine OutC.int ?_ | refine OutC.bool ?_ | refine OutC.sl ?_ | refine OutC.own rfl ?_ | refine OutC.fz rfl ?_ | refine OutC.zero ?_ | refine OutC.d ?_)
 exact q) : P := h q
theorem oC {P Q R : Prop} (q : Q) (r : R) (h : Q → R → P := by
 intro q r
 (first | refine OutVs.cons ?_ ?_ | refine OutCs.cons ?_ ?_)
 exact q
 exact r) : P := h q r
theorem RC_at {a t : Nat} {l : List ResultVar} {vs : List (Bool × List C)} [LdC t] (h : ResW Tryz.prog tm bo (.cell a t :: l) vs) : ResW Tryz.prog tm bo (.cell a t :: l) vs := h
theorem RA_at {a t : Nat} {l : List ResultVar} {vs : List (Bool × List C)} (n : Nat) [LdA t n] (h : ResW Tryz.prog tm bo (.cell a t :: l) vs) : ResW Tryz.prog tm bo (.cell a t :: l) vs := h
theorem eW {fn : Func} {args : List Arg} {vs : List (Bool × List C)} {l : List ResultVar} {ys : List (Bool × List C)} (hfr : fn.results = l.toArray) (ho : OutVs (lko bo) vs ys) (hr : ResW Tryz.prog tm bo l vs := by
 (repeat' (first | exact ResW.nil | refine ResW.tmp rfl ?_ | (refine RC_at ?_; refine ResW.cell LdC.h rfl rfl rfl ?_) | (refine RA_at 3 ?_; refine ResW.cellA (cs' := [_, _, _]) (LdA.h (n := 3)) rfl rfl rfl ?_) | (refine RA_at 4 ?_; refine ResW.cellA (cs' := [_, _, _, _]) (LdA.h (n := 4)) rfl rfl rfl ?_) | (refine RA_at 6 ?_; refine ResW.cellA (cs' := [_, _, _, _, _, _]) (LdA.h (n := 6)) rfl rfl rfl ?_) | (refine RA_at 7 ?_; refine ResW.cellA (cs' := [_, _, _, _, _, _, _]) (LdA.h (n := 7)) rfl rfl rfl ?_) | (refine RA_at 9 ?_; refine ResW.cellA (cs' := [_, _, _, _, _, _, _, _, _]) (LdA.h (n := 9)) rfl rfl rfl ?_)))) (hio : args.all (fun a => !isIo a) = true := by exact rfl) : FinW Tryz.prog fn args { vals := ys } .ret ⟨tm, clean bo, nx⟩ := endW hfr hr ho hio
theorem eO {fn : Func} {args : List Arg} {vs : List (Bool × List C)} {l : List ResultVar} {ax : AX} {r : ARes} (hfr : fn.results = l.toArray) (h : outO (clean bo) vs args = some r) (hax : ax = .ret ∨ (ax = .normal ∧ l = []) := by
 (first | exact .inl rfl | exact .inr ⟨rfl, rfl⟩)) (hr : ResW Tryz.prog tm bo l vs := by
 (repeat' (first | exact ResW.nil | refine ResW.tmp rfl ?_ | (refine RC_at ?_; refine ResW.cell LdC.h rfl rfl rfl ?_) | (refine RA_at 3 ?_; refine ResW.cellA (cs' := [_, _, _]) (LdA.h (n := 3)) rfl rfl rfl ?_) | (refine RA_at 4 ?_; refine ResW.cellA (cs' := [_, _, _, _]) (LdA.h (n := 4)) rfl rfl rfl ?_) | (refine RA_at 6 ?_; refine ResW.cellA (cs' := [_, _, _, _, _, _]) (LdA.h (n := 6)) rfl rfl rfl ?_) | (refine RA_at 7 ?_; refine ResW.cellA (cs' := [_, _, _, _, _, _, _]) (LdA.h (n := 7)) rfl rfl rfl ?_) | (refine RA_at 9 ?_; refine ResW.cellA (cs' := [_, _, _, _, _, _, _, _, _]) (LdA.h (n := 9)) rfl rfl rfl ?_)))) : FinO Tryz.prog fn args r ax ⟨tm, clean bo, nx⟩ := by
 rcases hax with rfl | ⟨rfl, rfl⟩
 ·exact endO1 hfr hr h
 ·exact endO1n hfr hr h
theorem oM {P : Prop} (h : P := by
 (first
 | omega
 | (simp only [IntKind.bits, List.length_append, List.length_cons, List.length_nil, List.length_map, List.length_take, List.length_drop, List.length_replicate, List.length_range, List.length_set, lInts, lSets, lBools, lMat, lTabs, lMixes, lSteps, lNodes, lConfs, lEnts, lActs, lCtls, lSigs, lReps]; omega))) : P := h
theorem zC {P Q K : Prop} (c : K) (q : Q) (h : K → Q → P := by
 intro c q
 (first | refine W.call0A rfl BoC.h c rfl rfl rfl ?_ | refine W.call0T rfl BoC.h c rfl rfl rfl ?_ | refine W.call1A rfl BoC.h c rfl rfl rfl rfl rfl ?_ | refine W.call1T rfl BoC.h c rfl rfl rfl rfl rfl ?_)
 exact q) : P := h c q
theorem zS {P Q K : Prop} (c : K) (q : Q) (h : K → Q → P := by
 intro c q
 (first | refine W.callS _ rfl m64 BoC.h c rfl rfl ?_ | refine W.callS1 _ rfl m64 BoC.h c rfl rfl rfl rfl ?_)
 exact q) : P := h c q
theorem zK {P Q K : Prop} (c : K) (q : Q) (h : K → Q → P := by
 intro c q
 (first | refine W.callK rfl BoC.h c rfl rfl rfl rfl rfl rfl rfl rfl rfl rfl rfl rfl rfl rfl ?_)
 exact q) : P := h c q
end Go.Proofs.YtbafhclppppkgaaGreatDoor

