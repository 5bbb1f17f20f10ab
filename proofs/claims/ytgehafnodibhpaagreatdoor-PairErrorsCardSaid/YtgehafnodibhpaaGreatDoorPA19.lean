/- Rules of runs and contracts of functions, for the claims of one seat. -/
import Derived.Test.YtgehafnodibhpaaGreatDoorPA14
namespace Go.Proofs.YtgehafnodibhpaaGreatDoor
open Go Go.RowKit
theorem rgL (lend : FuncId → Bool) {N id nx nx' : Nat} {l : List Oper} {dr : Bool} {cs : List Code} {R : AX → St → Prop} {tm : List (Nat × AV)} {bo : BO} [RegN id nx'] (hn : Nat.ble nx nx' = true) (h : W Tryz.prog lend N ⟨l⟩ dr cs R 0 l tm bo nx' []) : JL Tryz.prog N (.region id ⟨l⟩ dr :: cs) ⟨tm, clean bo, nx⟩ R := JL.regionW nx' mo hn h
end Go.Proofs.YtgehafnodibhpaaGreatDoor

