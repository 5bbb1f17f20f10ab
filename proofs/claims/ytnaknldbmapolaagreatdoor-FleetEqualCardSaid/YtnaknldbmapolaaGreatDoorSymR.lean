/-
  Symbolic runs: the rules by which a run is driven: a list of pieces of code, one after the other.
-/
import Derived.Test.YtnaknldbmapolaaGreatDoorSymE
namespace Go.Proofs.YtnaknldbmapolaaGreatDoor
open Go Go.RowKit
set_option linter.unusedSimpArgs false
set_option linter.unusedVariables false
theorem info_ex {P : Program} {t : TypeId} {z : Value} {n b : Nat} (h : (P.info? t).map (fun i => (i.zero, i.size, i.bytes)) = some (some z, n, b)) : ∃ i, P.info? t = some i ∧ i.zero = some z ∧ i.size = n ∧ i.bytes = b := by
  obtain ⟨i, h1, h2⟩ := Option.map_eq_some_iff.1 h
  simp only [Prod.mk.injEq] at h2
  exact ⟨i, h1, h2⟩
mutual
def JL (P : Program) (N : Nat) : List Code → St → (AX → St → Prop) → Prop
  | [], st, R => R .normal st
  | c :: cs, st, R => J P N c st (fun ax s => match ax with
    | .normal => JL P N cs s R
    | .exit i => R (.exit i) s
    | .ret => R .ret s)
end
def thenL (P : Program) (N : Nat) (cs : List Code) (R : AX → St → Prop) : AX → St → Prop
  | .normal, s => JL P N cs s R
  | .exit i, s => R (.exit i) s
  | .ret, s => R .ret s
section
variable {P : Program} {N : Nat} {st st' s s' : St} {R R' : AX → St → Prop} {cs : List Code}
theorem JL_cons {c : Code} : JL P N (c :: cs) st R ↔ J P N c st (thenL P N cs R) := by
  have : (fun (ax : AX) (s : St) => match ax with
    | .normal => JL P N cs s R
    | .exit i => R (.exit i) s
    | .ret => R .ret s) = thenL P N cs R := by funext ax s; cases ax <;> rfl
  unfold JL
  rw [this]
theorem outOf_normal {id : Nat} (h : R .normal s) : outOf id R .normal s := h
theorem outOf_same {id : Nat} (h : R .normal s) : outOf id R (.exit id) s := by show (if id = id then _ else _); rw [if_pos rfl]; exact h
theorem outOf_other {id i : Nat} (hi : (i == id) = false) (h : R (.exit i) s) : outOf id R (.exit i) s := by show (if i = id then _ else _); rw [if_neg (by simpa using hi)]; exact h
theorem outOf_ret {id : Nat} (h : R .ret s) : outOf id R .ret s := h
theorem thenL_normal (h : JL P N cs s R) : thenL P N cs R .normal s := h
theorem thenL_exit {i : Nat} (h : R (.exit i) s) : thenL P N cs R (.exit i) s := h
theorem thenL_ret (h : R .ret s) : thenL P N cs R .ret s := h
theorem roundOf_exit {ι : Type} {S : ι → St} {I : ι → Prop} {μ : ι → Nat} {i : ι} {n : Nat} (h : R (.exit n) s) : roundOf N S I μ i R (.exit n) s := h
theorem roundOf_ret {ι : Type} {S : ι → St} {I : ι → Prop} {μ : ι → Nat} {i : ι} (h : R .ret s) : roundOf N S I μ i R .ret s := h
theorem JL.nil (h : R .normal st) : JL P N [] st R := by unfold JL; exact h
theorem JL.sub {c : Code} (hs : Sub N st st') (h : JL P N (c :: cs) st' R) : JL P N (c :: cs) st R := by
  rw [JL_cons] at h ⊢; exact J.sub hs h
theorem JL.seq {a b : Code} (h : JL P N (a :: b :: cs) st R) : JL P N (.seq a b :: cs) st R := by
  rw [JL_cons] at h ⊢
  refine J.seq (h.mono fun ax s hs => ?_)
  cases ax with
  | normal => exact JL_cons.1 hs
  | exit i => exact hs
  | ret => exact hs
theorem JL.skip (h : JL P N cs st R) : JL P N (.skip :: cs) st R := JL_cons.2 (J.skip h)
theorem JL.label {l : Nat} (h : JL P N cs st R) : JL P N (.label l :: cs) st R := JL_cons.2 (J.label h)
theorem JL.exit {i : Nat} (h : R (.exit i) st) : JL P N (.exit i :: cs) st R := JL_cons.2 (J.exit h)
theorem JL.ret (h : R .ret st) : JL P N (.ret :: cs) st R := JL_cons.2 (J.ret h)
theorem JL.cond {c : Operand} {x y : Code} {b : Bool} (hc : ev (lk st.tm) c = some (.one false [.d (.v (.bool b))])) (ht : b = true → JL P N (x :: cs) st R) (hf : b = false → JL P N (y :: cs) st R) : JL P N (.cond c x y :: cs) st R :=
  JL_cons.2 (J.cond hc (fun h => JL_cons.1 (ht h)) (fun h => JL_cons.1 (hf h)))
theorem JL.condT {c : Operand} {x y : Code} (hc : ev (lk st.tm) c = some (.one false [.d (.v (.bool true))])) (h : JL P N (x :: cs) st R) : JL P N (.cond c x y :: cs) st R := JL.cond hc (fun _ => h) (fun h => by cases h)
theorem JL.condF {c : Operand} {x y : Code} (hc : ev (lk st.tm) c = some (.one false [.d (.v (.bool false))])) (h : JL P N (y :: cs) st R) : JL P N (.cond c x y :: cs) st R := JL.cond hc (fun h => by cases h) (fun _ => h)
theorem JL.block {id : Nat} {b : Code} (h : JL P N [b] st (outOf id (thenL P N cs R))) : JL P N (.block id b :: cs) st R := by
  rw [JL_cons] at h ⊢
  refine J.block (h.mono fun ax s hs => ?_)
  cases ax with
  | normal => exact hs
  | exit i => exact hs
  | ret => exact hs
theorem JL.loop {ι : Type} (S : ι → St) (I : ι → Prop) (μ : ι → Nat) {b : Code} (i0 : ι) (h0 : I i0) (hs0 : Sub N st (S i0)) (hb : ∀ i, I i → JL P N [b] (S i) (roundOf N S I μ i (thenL P N cs R))) : JL P N (.loop b :: cs) st R := by
  rw [JL_cons]
  refine J.loop S I μ i0 h0 hs0 fun i hi => ?_
  have := hb i hi
  rw [JL_cons] at this
  refine this.mono fun ax s hs => ?_
  cases ax with
  | normal => exact hs
  | exit i => exact hs
  | ret => exact hs
/-- Behind a region, with a state of one's own. -/
def endS (ops : Array Oper) (draw : Bool) (T : St → Prop) (s : St) (k : List Key) (ns : List Note) : Prop := k = [] ∧ (draw = false ∨ orderOk ops (masks ops ops.size) ns = true) ∧ T ⟨s.tm, s.bx, s.nx + 1⟩
theorem JL.region (K : Cons) (lend : FuncId → Bool) (hm : P.follows .mixedOrders = true) (hK : KOk P K) {id : Nat} {ops : Array Oper} {draw : Bool} (h : ∀ T : St → Prop, T s' → seqK P (envC K lend N) ops 0 ops.toList st (endS ops draw T)) (hR : JL P N cs s' R) : JL P N (.region id ops draw :: cs) st R :=
  JL_cons.2 (J.region K lend hm hK (h (fun s => thenL P N cs R .normal s) hR))
/-- The rest goes on from states of a family: the ways are joined. -/
theorem JL.cut {ι : Type} (S : ι → St) (I : ι → Prop) {c c' : Code} (hc : JL P N [c] st (fun ax s => match ax with
    | .normal => ∃ i, I i ∧ Sub N s (S i)
    | .exit n => R (.exit n) s
    | .ret => R .ret s)) (hr : ∀ i, I i → JL P N (c' :: cs) (S i) R) : JL P N (c :: c' :: cs) st R := by
  rw [JL_cons] at hc ⊢
  refine hc.mono fun ax s hs => ?_
  cases ax with
  | normal => obtain ⟨i, h1, h2⟩ := hs; exact JL.sub h2 (hr i h1)
  | exit i => exact hs
  | ret => exact hs
theorem fn_of_JL {f : FuncId} {fn : Func} {body : Code} {own : Bool} {args : List Arg} {bxs : List (Key × Box)} {r : ARes} (hf : P.funcs[f]? = some fn) (hbody : fn.body = some body) (hN : fn.ntmps = N) (hp : decide (fn.params.size ≤ args.length) = true) (hn : decide (args.length ≤ N) = true)
    (h : JL P N [body] ⟨argTm 0 args, argBx 0 args ++ bxs, 1⟩ (fnEnd P own fn args r)) : FnSound P f args bxs r := by
  subst hN
  refine fn_of_J (own := own) hf hbody (by simpa using hp) (of_decide_eq_true hn) ((JL_cons.1 h).mono fun ax s hs => ?_)
  cases ax with
  | normal => exact hs
  | exit i => exact hs
  | ret => exact hs
end
end Go.Proofs.YtnaknldbmapolaaGreatDoor
