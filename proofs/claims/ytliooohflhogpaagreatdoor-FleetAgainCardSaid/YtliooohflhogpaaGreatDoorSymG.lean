/-
  Symbolic runs: regions with tests that are not decided by data (each test splits the run), and regions whose end needs no state ahead.
-/
import Derived.Test.YtliooohflhogpaaGreatDoorGg
namespace Go.Proofs.YtliooohflhogpaaGreatDoor
open Go Go.RowKit
set_option linter.unusedSimpArgs false
set_option linter.unusedVariables false
/-- A goal that is to be simplified. -/
def SG (p : Prop) : Prop := p
theorem SG.mk {p : Prop} (h : p) : SG p := h
theorem key_beq (a b c d : Nat) : (((a, b) : Key) == (c, d)) = (a == c && b == d) := rfl
theorem and_sg {p q : Prop} (h : SG (p ∧ q)) : p ∧ q := h
theorem fnEnd_mk {P : Program} {own : Bool} {fn : Func} {args : List Arg} {r : ARes} {s : St} (h : outR P own fn args s = some r) : fnEnd P own fn args r .ret s := h
section
variable {P : Program} {N : Nat} {st : St} {R : AX → St → Prop} {cs : List Code} {E : Env} {ops : Array Oper} {i : Nat} {o : Oper} {rest : List Oper} {T : St → List Key → List Note → Prop}
theorem JL.regionT (K : Cons) (lend : FuncId → Bool) (hm : P.follows .mixedOrders = true) (hK : KOk P K) {id : Nat} {draw : Bool} (h : ∀ T : St → Prop, (∀ s, JL P N cs s R → T s) → SG (seqK P (envC K lend N) ops 0 ops.toList st (endS ops draw T))) : JL P N (.region id ops draw :: cs) st R :=
  JL_cons.2 (J.region K lend hm hK (h (fun s => thenL P N cs R .normal s) (fun s hs => hs)))
theorem kok_nil : KOk P [] := trivial
theorem kok_cons {j : Nat} {g : FuncId} {xs : List Arg} {bs : List (Key × Box)} {r : ARes} {K : Cons} (h : FnSound P g xs bs r) (t : KOk P K) : KOk P ((j, g, xs, bs, r) :: K) := ⟨h, t⟩
theorem contK_t : contK P E ops i o rest st T (some true) = match effAt P E i o (lk st.tm) (lk st.bx) st.nx with
    | some e => seqK P E ops (i + 1) rest ⟨setT o.dst e.av st.tm, putB e.up st.bx, st.nx⟩ (fun s k ns => T s (e.needs ++ k) (⟨opKeys (lk st.tm) (lk st.bx) o, e.up.map (·.1)⟩ :: ns))
    | none => False := rfl
theorem contK_f : contK P E ops i o rest st T (some false) = seqK P E ops (i + 1) rest ⟨setT o.dst .un st.tm, st.bx, st.nx⟩ (fun s k ns => T s k (⟨[], []⟩ :: ns)) := rfl
theorem contK_if {c : Bool} (ht : c = true → SG (contK P E ops i o rest st T (some true))) (hf : c = false → SG (contK P E ops i o rest st T (some false))) : contK P E ops i o rest st T (some c) := by
  cases c with
  | true => exact ht rfl
  | false => exact hf rfl
theorem contK_ifn {c : Bool} (ht : c = true → SG (contK P E ops i o rest st T (some false))) (hf : c = false → SG (contK P E ops i o rest st T (some true))) : contK P E ops i o rest st T (some !c) := by
  cases c with
  | true => exact ht rfl
  | false => exact hf rfl
end
def lendT (_ : FuncId) : Bool := true
theorem bq_t (b : Bool) : (b == true) = b := by cases b <;> rfl
theorem bq_f (b : Bool) : (b == false) = !b := by cases b <;> rfl
theorem sv_equalB {P : Program} {t : TypeId} {a b : Bool} (h : P.underlying t = some .bool) : semVal P (Op.equal t (.bool a) (.bool b)) = some (a == b) := by
  have gen : ∀ d, semVal P (Op.equalIn (d + 1) t (.bool a) (.bool b)) = some (a == b) := fun d => by
    simp only [Op.equalIn]
    rw [semVal_bind, semVal_underlying h]
    rfl
  exact gen 9999
theorem sv_eqlB {P : Program} {t : TypeId} {a b : Bool} (h : P.underlying t = some .bool) : semVal P (binOp .eql t (.bool a) (.bool b)) = some (.bool (a == b)) := by
  simp only [binOp]
  rw [semVal_bind, sv_equalB h]
  rfl
theorem sv_neqB {P : Program} {t : TypeId} {a b : Bool} (h : P.underlying t = some .bool) : semVal P (binOp .neq t (.bool a) (.bool b)) = some (.bool (!(a == b))) := by
  simp only [binOp]
  rw [semVal_bind, sv_equalB h]
  rfl
theorem lk_keep {α : Type} (ks : List Nat) : ∀ (tm : List (Nat × α)) (t : Nat) (v : α), lk (tm.filter fun x => ks.contains x.1) t = some v → lk tm t = some v
  | [], t, v, h => by cases h
  | (k, u) :: tm, t, v, h => by
    rw [List.filter_cons] at h
    split at h
    · have h' : (if t = k then some u else lk (tm.filter fun x => ks.contains x.1) t) = some v := h
      show (if t = k then some u else lk tm t) = some v
      split
      · rename_i e; rw [if_pos e] at h'; exact h'
      · rename_i e; rw [if_neg e] at h'; exact lk_keep ks tm t v h'
    · rename_i hk
      have h' := lk_keep ks tm t v h
      show (if t = k then some u else lk tm t) = some v
      split
      · rename_i e
        subst e
        obtain hm := lk_mem h
        have := (List.mem_filter.1 hm).2
        exact absurd this hk
      · exact h'
/-- Slots that are not asked for any more are dropped. -/
theorem JL.keep {P : Program} {N : Nat} {st : St} {R : AX → St → Prop} {c : Code} {cs : List Code} (ks : List Nat) (h : JL P N (c :: cs) ⟨st.tm.filter (fun x => ks.contains x.1), st.bx, st.nx⟩ R) : JL P N (c :: cs) st R :=
  JL.sub (st' := ⟨st.tm.filter (fun x => ks.contains x.1), st.bx, st.nx⟩) (fun V X Z w0 a w ⟨ρ, h⟩ => ⟨ρ, h.size, h.defers, (fun t av ht => h.tm t av (lk_keep ks _ t av ht)), h.bx, h.ap, h.lo, h.fr, h.va, h.zz⟩) h
/-- Lists compared element by element. -/
def eqBy {α : Type} (f : α → α → Bool) : List α → List α → Bool
  | [], [] => true
  | x :: xs, y :: ys => f x y && eqBy f xs ys
  | _, _ => false
def eqUpto {α : Type} (f : α → α → Bool) (xs ys : List α) (k : Nat) : Prop := ∀ j (hx : j < xs.length) (hy : j < ys.length), j < k → f xs[j] ys[j] = true
section
variable {α : Type} {f : α → α → Bool}
theorem eqBy_len : ∀ {xs ys : List α}, ¬ xs.length = ys.length → eqBy f xs ys = false
  | [], [], h => absurd rfl h
  | [], _ :: _, _ => rfl
  | _ :: _, [], _ => rfl
  | x :: xs, y :: ys, h => by
    simp only [eqBy]
    rw [eqBy_len (xs := xs) (ys := ys) (by simpa using h)]
    simp
theorem eqBy_at : ∀ {xs ys : List α} {k : Nat} (hx : k < xs.length) (hy : k < ys.length), f xs[k] ys[k] = false → eqBy f xs ys = false
  | x :: xs, y :: ys, 0, _, _, h => by simp only [eqBy]; rw [show f x y = false from h]; rfl
  | x :: xs, y :: ys, k + 1, hx, hy, h => by
    simp only [eqBy]
    rw [eqBy_at (xs := xs) (ys := ys) (k := k) (by simpa using hx) (by simpa using hy) h]
    simp
  | [], _, k, hx, _, _ => by simp at hx
  | _ :: _, [], k, _, hy, _ => by simp at hy
theorem eqBy_all : ∀ {xs ys : List α}, xs.length = ys.length → eqUpto f xs ys xs.length → eqBy f xs ys = true
  | [], [], _, _ => rfl
  | [], _ :: _, h, _ => by simp at h
  | _ :: _, [], h, _ => by simp at h
  | x :: xs, y :: ys, h, hu => by
    simp only [eqBy, Bool.and_eq_true]
    exact ⟨hu 0 (by simp) (by simp) (by simp), eqBy_all (by simpa using h) fun j hx hy hj => hu (j + 1) (by simpa using hx) (by simpa using hy) (by simpa using hj)⟩
theorem eqUpto_zero {xs ys : List α} : eqUpto f xs ys 0 := fun j _ _ h => absurd h (by omega)
theorem eqUpto_succ {xs ys : List α} {k : Nat} (h : eqUpto f xs ys k) (hk : ∀ (hx : k < xs.length) (hy : k < ys.length), f xs[k] ys[k] = true) : eqUpto f xs ys (k + 1) := fun j hx hy hj => by
  by_cases e : j = k
  · subst e; exact hk hx hy
  · exact h j hx hy (by omega)
theorem eqBy_symm (hf : ∀ x y, f x y = f y x) : ∀ xs ys : List α, eqBy f xs ys = eqBy f ys xs
  | [], [] => rfl
  | [], _ :: _ => rfl
  | _ :: _, [] => rfl
  | x :: xs, y :: ys => by simp only [eqBy]; rw [hf x y, eqBy_symm hf xs ys]
theorem eqBy_refl (hf : ∀ x, f x x = true) : ∀ xs : List α, eqBy f xs xs = true
  | [] => rfl
  | x :: xs => by simp only [eqBy]; rw [hf x, eqBy_refl hf xs]; rfl
end
/-- All of the first k elements. -/
def allUpto {α : Type} (f : α → Bool) (xs : List α) (k : Nat) : Prop := ∀ j (hx : j < xs.length), j < k → f xs[j] = true
section
variable {α : Type} {f : α → Bool}
theorem allUpto_zero {xs : List α} : allUpto f xs 0 := fun j _ h => absurd h (by omega)
theorem allUpto_succ {xs : List α} {k : Nat} (h : allUpto f xs k) (hk : ∀ hx : k < xs.length, f xs[k] = true) : allUpto f xs (k + 1) := fun j hx hj => by
  by_cases e : j = k
  · subst e; exact hk hx
  · exact h j hx (by omega)
theorem all_of_upto {xs : List α} (h : allUpto f xs xs.length) : xs.all f = true := by
  rw [List.all_eq_true]
  intro x hx
  obtain ⟨i, hi, rfl⟩ := List.getElem_of_mem hx
  exact h i hi hi
theorem all_at {xs : List α} {k : Nat} (hk : k < xs.length) (h : f xs[k] = false) : xs.all f = false := by
  cases hh : xs.all f with
  | false => rfl
  | true => rw [List.all_eq_true.1 hh _ (List.getElem_mem hk)] at h; cases h
end
end Go.Proofs.YtliooohflhogpaaGreatDoor
