/-
  Symbolic runs: how operations on plain values are carried out.
-/
import Derived.Test.YtnaknldbmapolaaGreatDoorSymS
namespace Go.Proofs.YtnaknldbmapolaaGreatDoor
open Go Go.RowKit
set_option linter.unusedSimpArgs false
set_option linter.unusedVariables false
theorem semVal_pure {α : Type} (P : Program) (a : α) : semVal P (pure a) = some a := rfl
theorem semVal_bind {α β : Type} (P : Program) (x : Sem α) (f : α → Sem β) : semVal P (x >>= f) = (semVal P x).bind fun a => semVal P (f a) := by
  show semVal P (Sem.bind x f) = _
  induction x with
  | pure a => rfl
  | program k ih => exact ih P
  | mark s k ih => exact ih
  | _ => rfl
theorem semVal_map {α β : Type} (P : Program) (x : Sem α) (f : α → β) : semVal P (f <$> x) = (semVal P x).map f := by
  have h : f <$> x = x >>= fun a => pure (f a) := (bind_pure_comp f x).symm
  rw [h, semVal_bind]
  cases semVal P x <;> rfl
theorem semVal_underlying {P : Program} {t : TypeId} {d : TypeDesc} (h : P.underlying t = some d) : semVal P (underlying t) = some d := by
  unfold underlying
  simp only [program]
  show semVal P (match P.underlying t with | some d => _ | none => _) = _
  rw [h]
  rfl
theorem semVal_conv {P : Program} {s d : TypeId} {k k' : IntKind} (hs : P.underlying s = some (.int k)) (hd : P.underlying d = some (.int k')) (n : Int) : semVal P (convert s d (.int k n)) = some (.int k' (k'.wrap n)) := by
  unfold convert
  rw [semVal_bind, semVal_underlying hs]
  simp only [Option.bind_some]
  rw [semVal_bind, semVal_underlying hd]
  rfl
def bothInt (a b : Option TypeDesc) : Bool := match a, b with
  | some (.int _), some (.int _) => true
  | _, _ => false
def wrapTo (d : Option TypeDesc) (n : Int) : Option Value := match d with
  | some (.int k) => some (.int k (k.wrap n))
  | _ => none
theorem semVal_convI {P : Program} {s d : TypeId} {k : IntKind} {n : Int} (h : bothInt (P.underlying s) (P.underlying d) = true) : semVal P (convert s d (.int k n)) = wrapTo (P.underlying d) n := by
  unfold bothInt at h
  split at h
  · rename_i k1 k2 h1 h2
    unfold convert
    rw [semVal_bind, semVal_underlying h1]
    simp only [Option.bind_some]
    rw [semVal_bind, semVal_underlying h2, h2]
    rfl
  · cases h
theorem lk_cons' {α β : Type} [DecidableEq α] (k a : α) (v : β) (r : List (α × β)) : lk ((k, v) :: r) a = if a = k then some v else lk r a := rfl
theorem lk_nil' {α β : Type} [DecidableEq α] (a : α) : lk ([] : List (α × β)) a = none := rfl
theorem mo : Tryz.prog.follows .mixedOrders = true := by kernel_rfl
def lendS (_ : FuncId) : Bool := false
end Go.Proofs.YtnaknldbmapolaaGreatDoor
