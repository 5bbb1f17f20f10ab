/-
  A region that draws its order, whose operations read, compute, make memory or call makers, before a forced tail: one obligation an operation serves every order.
-/
import Derived.Orders
import Derived.Below
namespace Go.Proofs.YtnaknldbmapolaaGreatDoor
open Go Go.RowKit
set_option linter.unusedSimpArgs false
set_option linter.unusedVariables false
section
variable {P : Program} {ops : Array Oper}
def dstOf (ops : Array Oper) (i : Nat) : Option Tmp := (ops[i]?).bind (·.dst)
/-- The values of the operations that are done, put in the order of the text. -/
def putS (ops : Array Oper) (vals : Nat → Value) (done : Nat → Bool) (a : Act) : Nat → Act
  | 0 => a
  | i + 1 => if done i = true then (putS ops vals done a i).put (dstOf ops i) (vals i) else putS ops vals done a i
theorem put_size (a : Act) (d : Option Tmp) (v : Value) : (a.put d v).tmps.size = a.tmps.size := by cases d <;> simp [Act.put]
theorem putS_size (vals : Nat → Value) (done : Nat → Bool) (a : Act) : ∀ n, (putS ops vals done a n).tmps.size = a.tmps.size
  | 0 => rfl
  | n + 1 => by unfold putS; split <;> simp [put_size, putS_size vals done a n]
theorem put_comm (a : Act) {d e : Option Tmp} (h : ∀ t, d = some t → e ≠ some t) (u v : Value) : (a.put d u).put e v = (a.put e v).put d u := by
  cases d with
  | none => rfl
  | some d =>
    cases e with
    | none => rfl
    | some e =>
      have hne : d ≠ e := fun h' => h d rfl (by rw [h'])
      simp only [Act.put]
      congr 1
      exact Array.setIfInBounds_comm u v hne
def upd {α : Type} (f : Nat → α) (i : Nat) (v : α) : Nat → α := fun j => if j = i then v else f j
theorem putS_congr {vals vals' : Nat → Value} {done done' : Nat → Bool} (a : Act) : ∀ n, (∀ j, j < n → done j = done' j ∧ vals j = vals' j) → putS ops vals done a n = putS ops vals' done' a n
  | 0, _ => rfl
  | n + 1, h => by
    have h1 := putS_congr a n (fun j hj => h j (by omega))
    obtain ⟨h2, h3⟩ := h n (by omega)
    unfold putS
    rw [h1, h2, h3]
theorem putS_insert {vals : Nat → Value} {done : Nat → Bool} (a : Act) (v : Value) {i : Nat} : ∀ n, i < n → done i = false → (∀ j, j < n → j ≠ i → ∀ t, dstOf ops i = some t → dstOf ops j ≠ some t) →
    putS ops (upd vals i v) (upd done i true) a n = (putS ops vals done a n).put (dstOf ops i) v
  | 0, h, _, _ => absurd h (by omega)
  | n + 1, h, hd, hx => by
    by_cases e : i = n
    · subst e
      have h1 : putS ops (upd vals i v) (upd done i true) a i = putS ops vals done a i := putS_congr a i (fun j hj => by simp [upd, show j ≠ i by omega])
      unfold putS
      rw [h1]
      simp [upd, hd]
    · have h1 := putS_insert (vals := vals) a v n (by omega) hd (fun j hj => hx j (by omega))
      have h2 : upd done i true n = done n := by simp [upd, Ne.symm e]
      have h3 : upd vals i v n = vals n := by simp [upd, Ne.symm e]
      unfold putS
      rw [h1, h2, h3]
      split
      · exact put_comm _ (hx n (by omega) (Ne.symm e)) _ _
      · rfl
theorem putS_eval {vals : Nat → Value} {done done' : Nat → Bool} (a : Act) {x : Operand} : ∀ n, (∀ j, j < n → done j ≠ done' j → ∀ t, dstOf ops j = some t → x ≠ .tmp t) → (putS ops vals done a n).eval x = (putS ops vals done' a n).eval x
  | 0, _ => rfl
  | n + 1, h => by
    have ih := putS_eval (vals := vals) a n (fun j hj => h j (by omega))
    have hn := h n (by omega)
    unfold putS
    by_cases e : done n = done' n
    · rw [e]
      split
      · cases hd : dstOf ops n with
        | none => exact ih
        | some d =>
          cases x with
          | tmp t =>
            by_cases hdt : d = t
            · subst hdt
              simp [Act.eval, Act.put, Array.getD_eq_getD_getElem?, Array.getElem?_setIfInBounds, putS_size]
            · rw [Act.eval_put (fun d' hd' => by cases hd'; intro h'; exact hdt (by cases h'; rfl)), Act.eval_put (fun d' hd' => by cases hd'; intro h'; exact hdt (by cases h'; rfl))]
              exact ih
          | const v => rfl
          | global g => rfl
          | func f => rfl
      · exact ih
    · have h1 := hn e
      by_cases g : done n = true
      · have g' : done' n = false := by cases hq : done' n <;> simp_all
        rw [if_pos g, if_neg (by rw [g']; decide), Act.eval_put h1]
        exact ih
      · have g1 : done n = false := by simpa using g
        have g' : done' n = true := by cases hq : done' n <;> simp_all
        rw [if_neg g, if_pos g', Act.eval_put h1]
        exact ih
/-- What an operation makes: a value, its memory between the sizes before and behind, nothing else turned. -/
abbrev VP := Value → Nat → Nat → World → Prop
def Makes (P : Program) (o : Oper) (a : Act) (w : World) (V : VP) : Prop :=
  match (execOp a.eval o).run P w with
  | .ok (.value v) w' => V v w.heap.size w'.heap.size w' ∧ Below w.heap.size w w'
  | .ok .skip w' => V undef w.heap.size w'.heap.size w' ∧ Below w.heap.size w w'
  | .ok (.enter f args) w' => w' = w ∧ Calls P f args w fun e w'' => ∃ v, e = .returned v ∧ V v w.heap.size w''.heap.size w'' ∧ Below w.heap.size w w''
  | _ => False
theorem Makes.wp {o : Oper} {a : Act} {w : World} {V : VP} {K : Act → World → Prop} {Q : Exit → Act → World → Prop} (h : Makes P o a w V)
    (hK : ∀ v w', V v w.heap.size w'.heap.size w' → Below w.heap.size w w' → K (a.put o.dst v) w') : o.wp P a w K Q := by
  unfold Makes at h
  unfold Oper.wp
  generalize (execOp a.eval o).run P w = r at *
  cases r with
  | ok n w' =>
    cases n <;> simp only [] at h <;> simp only [Oper.upon]
    case value v => exact hK _ _ h.1 h.2
    case skip => exact hK _ _ h.1 h.2
    case enter f args =>
      obtain ⟨rfl, hc⟩ := h
      exact hc.mono fun e w'' ⟨v, he, h1, h2⟩ => by subst he; exact hK _ _ h1 h2
  | halt x w' => exact h.elim
/-- Operation i looks only at operations before it that it waits for, and at none of the others. -/
def depB (ops : Array Oper) (i : Nat) (o : Oper) : Bool :=
  (List.range ops.size).all fun j => match dstOf ops j with
    | none => true
    | some t => !(o.op.operands.any fun x => match x with | .tmp u => u == t | _ => false) || (decide (j < i) && o.after.any fun e => e.on == j && Region.binds .any e)
/-- The checks: m operations in any order, each without guard and select, with a place of its own; then the tail, one after the other. -/
def makeB (ops : Array Oper) (m : Nat) : Bool :=
  decide (m ≤ ops.size) &&
  ((List.range ops.size).all fun i => match ops[i]? with
    | none => true
    | some o => o.guard.isNone && (match o.op with | .select .. => false | _ => true) && (o.after.all fun e => !Region.binds .any e || decide (e.on < i)) &&
      (if i < m then depB ops i o && ((List.range m).all fun j => j == i || (match o.dst with | none => true | some t => !(dstOf ops j == some t)))
       else (List.range i).all fun j => o.after.any fun e => e.on == j && Region.binds .any e))
section
variable {Q : Exit → Act → World → Prop} {m : Nat}
/-- The first k operations are listed. -/
def firstK (listed : Array Bool) (n k : Nat) : Prop := listed.size = n ∧ ∀ i, i < n → listed.getD i false = decide (i < k)
theorem getD_true {l : Array Bool} {i : Nat} (h : i < l.size) : l.getD i true = l.getD i false := by simp [Array.getD, h]
theorem firstK_set {listed : Array Bool} {n k : Nat} (h : firstK listed n k) (hk : k < n) : firstK (listed.setIfInBounds k true) n (k + 1) := by
  refine ⟨by simp [h.1], fun i hi => ?_⟩
  have := h.2 i hi
  by_cases e : i = k
  · subst e
    simp [Array.getD_eq_getD_getElem?, Array.getElem?_setIfInBounds, h.1, hk]
  · rw [show (listed.setIfInBounds k true).getD i false = listed.getD i false from by simp [Array.getD_eq_getD_getElem?, Array.getElem?_setIfInBounds_ne (Ne.symm e)], this]
    simp
    omega
/-- The tail, each operation behind all the others before it. -/
theorem any_tail (hT : ∀ i o, m ≤ i → ops[i]? = some o → ∀ j, j < i → ∃ e ∈ o.after, e.on = j ∧ Region.binds .any e = true) (hE : ∀ i o, ops[i]? = some o → ∀ e ∈ o.after, Region.binds .any e = true → e.on < i) :
    ∀ (r k : Nat) (listed : Array Bool) (a : Act) (w : World), k + r = ops.size → m ≤ k → firstK listed ops.size k → wpList P ops Q (ops.toList.drop k) a w → wpAny P .any ops Q r listed a w
  | 0, k, listed, a, w, hk, hm, hf, h => by
    obtain rfl : k = ops.size := by omega
    rw [List.drop_eq_nil_of_le (by simp)] at h
    refine ⟨?_, h⟩
    cases hr : Region.ready .any ops listed with
    | nil => rfl
    | cons x xs =>
      have hx : x ∈ Region.ready .any ops listed := by rw [hr]; simp
      obtain ⟨h1, o, h2, _⟩ := mem_ready.1 hx
      have hlt : x < ops.size := by
        rcases Nat.lt_or_ge x ops.size with h | h
        · exact h
        · rw [Array.getElem?_eq_none h] at h2; cases h2
      rw [getD_true (by rw [hf.1]; exact hlt), hf.2 x hlt] at h1
      simp at h1
      omega
  | r + 1, k, listed, a, w, hk, hm, hf, h => by
    have hkn : k < ops.size := by omega
    have hok : ops[k]? = some ops[k] := Array.getElem?_eq_getElem hkn
    have hready : k ∈ Region.ready .any ops listed := by
      refine mem_ready.2 ⟨by rw [getD_true (by rw [hf.1]; exact hkn), hf.2 k hkn]; simp, ops[k], hok, fun e he hb => ?_⟩
      have := hE k _ hok e he hb
      rw [hf.2 e.on (by omega)]
      simpa using this
    refine ⟨fun h0 => (by rw [h0] at hready; cases hready), fun i hi => ?_⟩
    obtain ⟨h1, o, h2, h3⟩ := mem_ready.1 hi
    have hlt : i < ops.size := by
      rcases Nat.lt_or_ge i ops.size with h | h
      · exact h
      · rw [Array.getElem?_eq_none h] at h2; cases h2
    rw [getD_true (by rw [hf.1]; exact hlt), hf.2 i hlt] at h1
    have hik : k ≤ i := by simpa using h1
    have hki : i = k := by
      rcases Nat.lt_or_ge k i with hlt' | hge
      · obtain ⟨e, he, e1, e2⟩ := hT i o (by omega) h2 k hlt'
        have := h3 e he e2
        rw [e1, hf.2 k hkn] at this
        simp at this
      · omega
    subst hki
    have hdrop : ops.toList.drop i = ops[i] :: ops.toList.drop (i + 1) := by
      rw [List.drop_eq_getElem_cons (by simpa using hkn)]
      simp
    rw [hdrop] at h
    have h4 : wpOp P ops Q i (wpList P ops Q (ops.toList.drop (i + 1))) a w := by
      unfold wpOp
      simp only [hok]
      exact h
    exact wpOp_mono (fun a' w' h' => any_tail hT hE r (i + 1) _ a' w' (by omega) (by omega) (firstK_set hf hkn) h') h4
/-- The undone among the first m. -/
def undone (listed : Array Bool) : Nat → Nat
  | 0 => 0
  | m + 1 => undone listed m + (if listed.getD m false = true then 0 else 1)
theorem undone_zero {listed : Array Bool} : ∀ {m : Nat}, undone listed m = 0 → ∀ i, i < m → listed.getD i false = true
  | 0, _, i, hi => absurd hi (by omega)
  | m + 1, h, i, hi => by
    unfold undone at h
    by_cases e : i = m
    · subst e
      by_cases g : listed.getD i false = true
      · exact g
      · rw [if_neg g] at h; omega
    · exact undone_zero (m := m) (by omega) i (by omega)
theorem undone_pos {listed : Array Bool} : ∀ {m : Nat}, 0 < undone listed m → ∃ i, i < m ∧ listed.getD i false = false ∧ ∀ j, j < i → listed.getD j false = true
  | 0, h => absurd h (by simp [undone])
  | m + 1, h => by
    by_cases g : undone listed m = 0
    · unfold undone at h
      refine ⟨m, by omega, ?_, undone_zero g⟩
      cases hq : listed.getD m false
      · rfl
      · rw [if_pos hq] at h; omega
    · obtain ⟨i, h1, h2⟩ := undone_pos (listed := listed) (m := m) (by omega)
      exact ⟨i, by omega, h2⟩
theorem getD_set {listed : Array Bool} {i j : Nat} (hi : i < listed.size) : (listed.setIfInBounds i true).getD j false = if j = i then true else listed.getD j false := by
  by_cases e : j = i
  · subst e
    simp [Array.getD_eq_getD_getElem?, hi]
  · rw [if_neg e]
    simp [Array.getD_eq_getD_getElem?, Array.getElem?_setIfInBounds_ne (Ne.symm e)]
theorem undone_same {listed : Array Bool} {i : Nat} (hi : i < listed.size) : ∀ {m : Nat}, m ≤ i → undone (listed.setIfInBounds i true) m = undone listed m
  | 0, _ => rfl
  | m + 1, h => by
    unfold undone
    rw [undone_same hi (by omega), getD_set hi, if_neg (show ¬ m = i by omega)]
theorem undone_set {listed : Array Bool} {i : Nat} (hi : i < listed.size) (hd : listed.getD i false = false) : ∀ {m : Nat}, i < m → undone (listed.setIfInBounds i true) m + 1 = undone listed m
  | 0, h => absurd h (by omega)
  | m + 1, h => by
    unfold undone
    rw [getD_set hi]
    by_cases e : m = i
    · subst e
      rw [undone_same hi (Nat.le_refl _), if_pos rfl, hd]
      simp
    · rw [if_neg e]
      have := undone_set hi hd (m := m) (by omega)
      omega
/-- The invariant: the values of the operations that are done, each with memory of its own. -/
def MInv (ops : Array Oper) (m : Nat) (V : Nat → VP) (a0 : Act) (W : World) (listed : Array Bool) (a : Act) (w : World) : Prop :=
  ∃ (vals : Nat → Value) (lo hi : Nat → Nat), a = putS ops vals (fun i => listed.getD i false) a0 m ∧ Below W.heap.size W w ∧
    (∀ i, i < m → listed.getD i false = true → V i (vals i) (lo i) (hi i) w ∧ W.heap.size ≤ lo i ∧ lo i ≤ hi i ∧ hi i ≤ w.heap.size) ∧
    (∀ i j, i < m → j < m → i ≠ j → listed.getD i false = true → listed.getD j false = true → hi i ≤ lo j ∨ hi j ≤ lo i)
theorem any_make {V : Nat → VP} {a0 : Act} {W : World} (hm : m ≤ ops.size)
    (hG : ∀ (i : Nat) (o : Oper), ops[i]? = some o → o.guard = none) (hS : ∀ (i : Nat) (o : Oper), ops[i]? = some o → ∀ cs b, o.op ≠ .select cs b)
    (hE : ∀ i o, ops[i]? = some o → ∀ e ∈ o.after, Region.binds .any e = true → e.on < i)
    (hT : ∀ i o, m ≤ i → ops[i]? = some o → ∀ j, j < i → ∃ e ∈ o.after, e.on = j ∧ Region.binds .any e = true)
    (hD : ∀ i o, i < m → ops[i]? = some o → ∀ j t, j < m → dstOf ops j = some t → .tmp t ∈ o.op.operands → j < i ∧ ∃ e ∈ o.after, e.on = j ∧ Region.binds .any e = true)
    (hX : ∀ i j t, i < m → j < m → j ≠ i → dstOf ops i = some t → dstOf ops j ≠ some t)
    (hV : ∀ i v l h w w', V i v l h w → h ≤ w.heap.size → Below w.heap.size w w' → V i v l h w')
    (hstep : ∀ i o (vals : Nat → Value) (lo hi : Nat → Nat) (w : World), i < m → ops[i]? = some o → Below W.heap.size W w →
      (∀ j, j < i → (∃ e ∈ o.after, e.on = j ∧ Region.binds .any e = true) → V j (vals j) (lo j) (hi j) w ∧ W.heap.size ≤ lo j ∧ lo j ≤ hi j ∧ hi j ≤ w.heap.size) → (∀ j k, j < i → k < i → j ≠ k → (∃ e ∈ o.after, e.on = j ∧ Region.binds .any e = true) → (∃ e ∈ o.after, e.on = k ∧ Region.binds .any e = true) → hi j ≤ lo k ∨ hi k ≤ lo j) → Makes P o (putS ops vals (fun _ => true) a0 i) w (V i))
    (hend : ∀ (vals : Nat → Value) (lo hi : Nat → Nat) (w : World), Below W.heap.size W w → (∀ i, i < m → V i (vals i) (lo i) (hi i) w ∧ W.heap.size ≤ lo i ∧ lo i ≤ hi i ∧ hi i ≤ w.heap.size) →
      (∀ i j, i < m → j < m → i ≠ j → hi i ≤ lo j ∨ hi j ≤ lo i) → wpList P ops Q (ops.toList.drop m) (putS ops vals (fun _ => true) a0 m) w) :
    ∀ (f : Nat) (listed : Array Bool) (a : Act) (w : World), listed.size = ops.size → (∀ k, m ≤ k → listed.getD k false = false) → undone listed m = f → MInv ops m V a0 W listed a w → wpAny P .any ops Q (f + (ops.size - m)) listed a w
  | 0, listed, a, w, hs, hn, hu, ⟨vals, lo, hi, h1, h2, h3, h4⟩ => by
    have hall := undone_zero hu
    have hf : firstK listed ops.size m := ⟨hs, fun i hi => by
      by_cases e : i < m
      · rw [hall i e]; simp [e]
      · rw [hn i (by omega)]; simp [e]⟩
    rw [Nat.zero_add]
    refine any_tail hT hE (ops.size - m) m listed a w (by omega) (Nat.le_refl _) hf ?_
    have e : a = putS ops vals (fun _ => true) a0 m := by
      rw [h1]
      exact putS_congr a0 m (fun j hj => ⟨hall j hj, rfl⟩)
    rw [e]
    exact hend vals lo hi w h2 (fun i hi => h3 i hi (hall i hi)) (fun i j hi hj hne => h4 i j hi hj hne (hall i hi) (hall j hj))
  | f + 1, listed, a, w, hs, hn, hu, hinv => by
    rw [show f + 1 + (ops.size - m) = (f + (ops.size - m)) + 1 by omega]
    refine ⟨fun h0 => ?_, fun i hi => ?_⟩
    · obtain ⟨i, k1, k2, k3⟩ := undone_pos (listed := listed) (m := m) (by omega)
      have hio : ops[i]? = some (ops[i]'(by omega)) := Array.getElem?_eq_getElem (by omega)
      have : i ∈ Region.ready .any ops listed := mem_ready.2 ⟨by rw [getD_true (by omega)]; exact k2, _, hio, fun e he hb => k3 _ (hE i _ hio e he hb)⟩
      rw [h0] at this
      cases this
    · obtain ⟨g1, o, g2, g3⟩ := mem_ready.1 hi
      have hlt : i < ops.size := by
        rcases Nat.lt_or_ge i ops.size with h | h
        · exact h
        · rw [Array.getElem?_eq_none h] at g2; cases g2
      rw [getD_true (by omega)] at g1
      have him : i < m := by
        rcases Nat.lt_or_ge i m with h | h
        · exact h
        · obtain ⟨j, k1, k2, _⟩ := undone_pos (listed := listed) (m := m) (by omega)
          obtain ⟨e, he, e1, e2⟩ := hT i o h g2 j (by omega)
          have := g3 e he e2
          rw [e1, k2] at this
          cases this
      obtain ⟨vals, lo, hi', h1, h2, h3, h4⟩ := hinv
      have hdep : ∀ j, j < i → (∃ e ∈ o.after, e.on = j ∧ Region.binds .any e = true) → listed.getD j false = true := fun j _ ⟨e, he, e1, e2⟩ => by rw [← e1]; exact g3 e he e2
      have hmk := hstep i o vals lo hi' w him g2 h2 (fun j hj hx => h3 j (by omega) (hdep j hj hx)) (fun j k hj hk hne hx hy => h4 j k (by omega) (by omega) hne (hdep j hj hx) (hdep k hk hy))
      have hex : execOp a.eval o = execOp (putS ops vals (fun _ => true) a0 i).eval o := by
        rw [h1]
        have e1 : putS ops vals (fun _ => true) a0 i = putS ops vals (fun j => decide (j < i)) a0 i := putS_congr a0 i (fun j hj => by simp [hj])
        have e2 : ∀ n, i ≤ n → putS ops vals (fun j => decide (j < i)) a0 n = putS ops vals (fun j => decide (j < i)) a0 i := by
          intro n hn'
          induction n with
          | zero => obtain rfl : i = 0 := by omega
                    rfl
          | succ n ih =>
            by_cases e : i = n + 1
            · rw [e]
            · unfold putS
              rw [if_neg (by simp; omega)]
              rw [ih (by omega)]
              cases i <;> rfl
        rw [e1, ← e2 m (by omega)]
        refine execOp_congr o (hS i o g2) (fun x hx => putS_eval a0 m (fun j hj hne t ht hxt => ?_))
        subst hxt
        obtain ⟨k1, k2⟩ := hD i o him g2 j t hj ht hx
        exact hne (by rw [hdep j k1 k2]; simp [k1])
      have hmk' : Makes P o a w (V i) := by
        unfold Makes at hmk ⊢
        rw [hex]
        exact hmk
      unfold wpOp
      simp only [g2]
      rw [if_pos (by simp [Region.wanted, hG i o g2])]
      refine .inl (hmk'.wp fun v w' hv hb => ?_)
      have hdst : o.dst = dstOf ops i := by simp [dstOf, g2]
      refine any_make hm hG hS hE hT hD hX hV hstep hend f _ _ w' (by simp [hs]) (fun k hk => by rw [getD_set (by omega), if_neg (by omega)]; exact hn k hk) (by have := undone_set (listed := listed) (i := i) (by omega) g1 (m := m) him; omega) ?_
      have hsz := hb.size
      refine ⟨upd vals i v, upd lo i w.heap.size, upd hi' i w'.heap.size, ?_, h2.trans (hb.mono h2.size), fun j hj hl => ?_, fun j k hj hk hne hl1 hl2 => ?_⟩
      · rw [h1, hdst]
        have e1 : (fun j => (listed.setIfInBounds i true).getD j false) = upd (fun j => listed.getD j false) i true := by
          funext j
          rw [getD_set (by omega)]
          rfl
        rw [e1]
        exact (putS_insert a0 v m him g1 (fun j hj hne t ht => hX i j t him hj hne ht)).symm
      · rw [getD_set (by omega)] at hl
        by_cases e : j = i
        · subst e
          simp only [upd, if_true]
          exact ⟨hv, h2.size, hsz, Nat.le_refl _⟩
        · rw [if_neg e] at hl
          obtain ⟨q1, q2, q3, q4⟩ := h3 j hj hl
          simp only [upd, if_neg e]
          exact ⟨hV j _ _ _ w w' q1 q4 hb, q2, q3, by omega⟩
      · rw [getD_set (by omega)] at hl1 hl2
        by_cases e : j = i
        · subst e
          have e' : ¬ k = j := fun h => hne h.symm
          rw [if_neg e'] at hl2
          have := h3 k hk hl2
          simp only [upd, if_true, if_neg e']
          omega
        · rw [if_neg e] at hl1
          by_cases e2 : k = i
          · subst e2
            have := h3 j hj hl1
            simp only [upd, if_true, if_neg e]
            omega
          · rw [if_neg e2] at hl2
            simp only [upd, if_neg e, if_neg e2]
            exact h4 j k hj hk hne hl1 hl2
theorem opt_lt {i : Nat} {o : Oper} (h : ops[i]? = some o) : i < ops.size := by
  rcases Nat.lt_or_ge i ops.size with g | g
  · exact g
  · rw [Array.getElem?_eq_none g] at h; cases h
theorem undone_all : ∀ (n m : Nat), undone (Array.replicate n false) m = m
  | n, 0 => rfl
  | n, m + 1 => by
    unfold undone
    rw [undone_all n m, if_neg]
    by_cases h : m < n <;> simp [Array.getD, h]
theorem putS_none (vals : Nat → Value) (a : Act) : ∀ n, putS ops vals (fun _ => false) a n = a
  | 0 => rfl
  | n + 1 => by unfold putS; rw [if_neg (by decide)]; exact putS_none vals a n
/-- The region, for every order: an obligation for each of the first m operations, in the order of the text, and the tail. -/
theorem wp_region_make {id : Nat} {a : Act} {w : World} (m : Nat) (hf : P.follows .mixedOrders = true) (hB : makeB ops m = true) (V : Nat → VP)
    (hV : ∀ i v l h w w', V i v l h w → h ≤ w.heap.size → Below w.heap.size w w' → V i v l h w')
    (hstep : ∀ i o (vals : Nat → Value) (lo hi : Nat → Nat) (wx : World), i < m → ops[i]? = some o → Below w.heap.size w wx →
      (∀ j, j < i → (∃ e ∈ o.after, e.on = j ∧ Region.binds .any e = true) → V j (vals j) (lo j) (hi j) wx ∧ w.heap.size ≤ lo j ∧ lo j ≤ hi j ∧ hi j ≤ wx.heap.size) → (∀ j k, j < i → k < i → j ≠ k → (∃ e ∈ o.after, e.on = j ∧ Region.binds .any e = true) → (∃ e ∈ o.after, e.on = k ∧ Region.binds .any e = true) → hi j ≤ lo k ∨ hi k ≤ lo j) → Makes P o (putS ops vals (fun _ => true) a i) wx (V i))
    (hend : ∀ (vals : Nat → Value) (lo hi : Nat → Nat) (wx : World), Below w.heap.size w wx → (∀ i, i < m → V i (vals i) (lo i) (hi i) wx ∧ w.heap.size ≤ lo i ∧ lo i ≤ hi i ∧ hi i ≤ wx.heap.size) →
      (∀ i j, i < m → j < m → i ≠ j → hi i ≤ lo j ∨ hi j ≤ lo i) → wpList P ops Q (ops.toList.drop m) (putS ops vals (fun _ => true) a m) wx) : (Code.region id ops true).wp P Q a w := by
  unfold makeB at hB
  rw [Bool.and_eq_true, decide_eq_true_eq, List.all_eq_true] at hB
  obtain ⟨hm, hall⟩ := hB
  have H : ∀ (i : Nat) (o : Oper), ops[i]? = some o → (o.guard.isNone && (match o.op with | .select .. => false | _ => true) && (o.after.all fun e => !Region.binds .any e || decide (e.on < i)) &&
      (if i < m then depB ops i o && ((List.range m).all fun j => j == i || (match o.dst with | none => true | some t => !(dstOf ops j == some t)))
       else (List.range i).all fun j => o.after.any fun e => e.on == j && Region.binds .any e)) = true := by
    intro i o ho
    have := hall i (List.mem_range.2 (opt_lt ho))
    simpa only [ho] using this
  refine wp_region_any hf ?_
  have hW : ({ w with drawn := w.drawn + 1 } : World) = w.drew := rfl
  have key := any_make (P := P) (ops := ops) (Q := Q) (m := m) (V := V) (a0 := a) (W := w) hm ?_ ?_ ?_ ?_ ?_ ?_ hV hstep hend m (Array.replicate ops.size false) a w.drew (by simp) (fun k _ => by by_cases h : k < ops.size <;> simp [Array.getD, h]) (undone_all _ _)
    ⟨fun _ => undef, fun _ => 0, fun _ => 0, ?_, (Below.refl _ _).drew, fun i _ h => ?_, fun i j _ _ _ h => ?_⟩
  · rw [show m + (ops.size - m) = ops.size by omega] at key
    exact key
  · intro i o ho
    have := H i o ho
    simp only [Bool.and_eq_true] at this
    simpa using this.1.1.1
  · intro i o ho cs b e
    have := H i o ho
    simp only [Bool.and_eq_true] at this
    rw [e] at this
    simp at this
  · intro i o ho e he hb
    have := H i o ho
    simp only [Bool.and_eq_true] at this
    have h2 := Array.all_eq_true'.1 this.1.2 e he
    rw [hb] at h2
    simpa using h2
  · intro i o hmi ho j hj
    have := H i o ho
    simp only [Bool.and_eq_true] at this
    have h2 := this.2
    rw [if_neg (by omega)] at h2
    have h3 := List.all_eq_true.1 h2 j (List.mem_range.2 hj)
    obtain ⟨e, he, h4⟩ := Array.any_eq_true'.1 h3
    simp only [Bool.and_eq_true, beq_iff_eq] at h4
    exact ⟨e, he, h4.1, h4.2⟩
  · intro i o him ho j t hj ht hx
    have := H i o ho
    simp only [Bool.and_eq_true] at this
    have h2 := this.2
    rw [if_pos him, Bool.and_eq_true] at h2
    have h3 := List.all_eq_true.1 h2.1 j (List.mem_range.2 (by omega))
    rw [ht] at h3
    simp only [Bool.or_eq_true, Bool.and_eq_true, decide_eq_true_eq] at h3
    rcases h3 with h3 | ⟨h3, h4⟩
    · exfalso
      have h5 : (o.op.operands.any fun x => match x with | .tmp u => u == t | _ => false) = true := Array.any_eq_true'.2 ⟨_, hx, by simp⟩
      rw [h5] at h3
      simp at h3
    · obtain ⟨e, he, h5⟩ := Array.any_eq_true'.1 h4
      simp only [Bool.and_eq_true, beq_iff_eq] at h5
      exact ⟨h3, e, he, h5.1, h5.2⟩
  · intro i j t him hj hne ht
    have hio : ops[i]? = some (ops[i]'(by omega)) := Array.getElem?_eq_getElem (by omega)
    have := H i _ hio
    simp only [Bool.and_eq_true] at this
    have h2 := this.2
    rw [if_pos him, Bool.and_eq_true] at h2
    have h3 := List.all_eq_true.1 h2.2 j (List.mem_range.2 hj)
    have hd : (ops[i]'(by omega)).dst = some t := by simpa [dstOf, hio] using ht
    rw [hd] at h3
    simp only [Bool.or_eq_true, beq_iff_eq] at h3
    rcases h3 with h3 | h3
    · exact absurd h3 hne
    · simpa using h3
  · have e1 : (fun i => (Array.replicate ops.size false).getD i false) = fun _ => false := by
      funext i
      by_cases h : i < ops.size <;> simp [Array.getD, h]
    rw [e1, putS_none]
  · exfalso
    by_cases g : i < ops.size <;> simp [Array.getD, g] at h
  · exfalso
    by_cases g : i < ops.size <;> simp [Array.getD, g] at h
end
end
end Go.Proofs.YtnaknldbmapolaaGreatDoor
