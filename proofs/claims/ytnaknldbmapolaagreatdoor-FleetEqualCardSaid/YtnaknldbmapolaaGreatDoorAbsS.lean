/-
  The abstract machine is right: how the relation goes on; operands; operations on operands without addresses.
-/
import Derived.Test.YtnaknldbmapolaaGreatDoorAbsM
namespace Go.Proofs.YtnaknldbmapolaaGreatDoor
open Go Go.RowKit
set_option linter.unusedSimpArgs false
set_option linter.unusedVariables false
def updT (lt : Nat → Option AV) (d : Option Nat) (av : AV) (t : Nat) : Option AV := if d = some t then some av else lt t
def updB (lb : Key → Option Box) (up : List (Key × Option Box)) (k : Key) : Option Box := match lk up k with | some ob => ob | none => lb k
def updR (ρ : Key → Hd) (k : Key) (h : Hd) (q : Key) : Hd := if q = k then h else ρ q
theorem put_getD (a : Act) (d : Option Nat) (v : Value) (t : Nat) (hd : ∀ k, d = some k → k < a.tmps.size) : (a.put d v).tmps.getD t undef = if d = some t then v else a.tmps.getD t undef := by
  cases d with
  | none => rfl
  | some d =>
    have := hd d rfl
    by_cases h : d = t
    · subst h
      simp [Act.put, Array.getD_eq_getD_getElem?, this]
    · rw [if_neg (by simpa using h)]
      simp [Act.put, Array.getD_eq_getD_getElem?, Array.getElem?_setIfInBounds_ne h]
theorem put_sz (a : Act) (d : Option Nat) (v : Value) : (a.put d v).tmps.size = a.tmps.size := by cases d <;> simp [Act.put]
theorem put_def (a : Act) (d : Option Nat) (v : Value) : (a.put d v).defers = a.defers := by cases d <;> rfl
section
variable {V X : Nat → Prop} {Z : Key → Option Nat} {w0 w w' : World} {N : Nat} {ρ ρ' : Key → Hd} {ok ok' : Key → Prop} {lt lt' : Nat → Option AV} {lb lb' : Key → Option Box} {a : Act}
/-- How the relation goes on. -/
theorem Rel.step (h : Rel V X Z w0 N ρ ok lt lb a w) (d : Option Nat) (av : AV) (v : Value) (hd : ∀ k, d = some k → k < N)
    (hk : Keep (Im V ρ' lb') w w') (hs : ∀ b, b < w.heap.size → Im V ρ lb b → Im V ρ' lb' b) (hρ : ∀ q : Key, ok q → ρ' q = ρ q) (ho : ∀ q : Key, ok q → ok' q)
    (hv : AVRel (CRel (Im V ρ' lb') ρ' ok' w') av v)
    (hbx : ∀ q box, lb' q = some box → (lb q = some box ∧ (box.live = true → ∀ b, (ρ q).g = some b → w'.heap[b]? = w.heap[b]?)) ∨ (ok' q ∧ BoxRel (Im V ρ' lb') ρ' ok' w' q box))
    (hap : ∀ q box q' box' b, lb' q = some box → box.live = true → lb' q' = some box' → box'.live = true → (ρ' q).g = some b → (ρ' q').g = some b → q = q')
    (hlo : ∀ q box b, lb' q = some box → box.live = true → (ρ' q).g = some b → b < w'.heap.size ∧ (w0.heap.size ≤ b ∨ X b))
    (hfr : Keep (fun b => ¬ X b) w0 w') : Rel V X Z w0 N ρ' ok' (updT lt d av) lb' (a.put d v) w' := by
  have hsz : ∀ k, d = some k → k < a.tmps.size := fun k hk' => by rw [h.size]; exact hd k hk'
  refine ⟨by rw [put_sz]; exact h.size, by rw [put_def]; exact h.defers, fun t av' ht => ?_, fun q box hq => ?_, hap, hlo, hfr, h.va, fun q hq => ⟨ho q (h.zz q hq).1, by rw [hρ q (h.zz q hq).1]; exact (h.zz q hq).2⟩⟩
  · rw [put_getD a d v t hsz]
    unfold updT at ht
    by_cases e : d = some t
    · rw [if_pos e] at ht ⊢
      cases ht
      exact ⟨hd t e, hv⟩
    · rw [if_neg e] at ht ⊢
      obtain ⟨h1, h2⟩ := h.tm t av' ht
      exact ⟨h1, h2.imp fun c v hc => hc.keep hk hs hρ ho⟩
  · rcases hbx q box hq with ⟨h1, h2⟩ | h1
    · obtain ⟨h3, h4⟩ := h.bx q box h1
      exact ⟨ho q h3, h4.keep hk hs hρ ho h3 h2⟩
    · exact h1
/-- An operation that changes nothing in memory. -/
theorem Rel.pure (h : Rel V X Z w0 N ρ ok lt lb a w) (d : Option Nat) (av : AV) (v : Value) (hd : ∀ k, d = some k → k < N) (ho : ∀ q : Key, ok q → ok' q)
    (hv : AVRel (CRel (Im V ρ lb) ρ ok w) av v) : Rel V X Z w0 N ρ ok' (updT lt d av) lb (a.put d v) w :=
  h.step d av v hd (Keep.refl _ _) (fun _ _ h => h) (fun _ _ => rfl) ho (hv.imp fun c v hc => hc.keep (Keep.refl _ _) (fun _ _ h => h) (fun _ _ => rfl) ho) (fun q box hq => .inl ⟨hq, fun _ _ _ => rfl⟩) h.ap h.lo h.fr
theorem Keep.out (h : Rel V X Z w0 N ρ ok lt lb a w) (hk : Keep (fun b => ∀ q box, lb q = some box → box.live = true → (ρ q).g ≠ some b) w w') : Keep (fun b => ¬ X b) w0 w' :=
  ⟨hk.os.trans h.fr.os, hk.tape.trans h.fr.tape, hk.output.trans h.fr.output, Nat.le_trans h.fr.size hk.size, fun b hb hx => (hk.block b (Nat.lt_of_lt_of_le hb h.fr.size) (fun q box hq hl hg => by
    rcases (h.lo q box b hq hl hg).2 with h1 | h1
    · omega
    · exact hx h1)).trans (h.fr.block b hb hx)⟩
/-- A new box in a new block. -/
theorem Rel.new (h : Rel V X Z w0 N ρ ok lt lb a w) (d : Option Nat) (av : AV) (v : Value) (hd : ∀ k, d = some k → k < N) (k : Key) (hk : ¬ ok k) (hd' : Hd) (box : Box) (hg : ∀ b, hd'.g = some b → w.heap.size ≤ b ∧ b < w'.heap.size) (hk' : ok' k) (ho : ∀ q : Key, ok q → ok' q)
    (hw : Keep (fun b => b < w.heap.size) w w')
    (hv : AVRel (CRel (Im V (updR ρ k hd') (updB lb [(k, some box)])) (updR ρ k hd') ok' w') av v)
    (hB : BoxRel (Im V (updR ρ k hd') (updB lb [(k, some box)])) (updR ρ k hd') ok' w' k box) : Rel V X Z w0 N (updR ρ k hd') ok' (updT lt d av) (updB lb [(k, some box)]) (a.put d v) w' := by
  have hbb : ∀ q : Key, updB lb [(k, some box)] q = if q = k then some box else lb q := fun q => by
    unfold updB lk lk
    split <;> simp_all
  have hne : ∀ q box', lb q = some box' → q ≠ k := fun q box' hq e => hk (e ▸ (h.bx q box' hq).1)
  refine h.step d av v hd (hw.mono fun b hb _ => hb) (fun b hb hi => ⟨hi.1, fun q box' hq hl => ?_⟩) (fun q hq => ?_) ho hv (fun q box' hq => ?_) (fun q b1 q' b2 b e1 l1 e2 l2 g1 g2 => ?_) (fun q box' b hq hl hgb => ?_) ?_
  · rw [hbb] at hq
    unfold updR
    split
    · intro hh; have := (hg b hh).1; omega
    · rename_i hqk
      rw [if_neg hqk] at hq
      exact hi.2 q box' hq hl
  · unfold updR
    rw [if_neg (fun e : q = k => hk (e ▸ hq))]
  · rw [hbb] at hq
    by_cases e : q = k
    · subst e
      rw [if_pos rfl] at hq
      cases hq
      exact .inr ⟨hk', hB⟩
    · rw [if_neg e] at hq
      exact .inl ⟨hq, fun hl b hb => hw.block b (h.lo q box' b hq hl hb).1 (h.lo q box' b hq hl hb).1⟩
  · rw [hbb] at e1 e2
    by_cases c1 : q = k
    · by_cases c2 : q' = k
      · rw [c1, c2]
      · rw [if_neg c2] at e2
        unfold updR at g1 g2
        rw [if_pos c1] at g1
        rw [if_neg c2] at g2
        have h1 := hg b g1
        have := (h.lo q' b2 _ e2 l2 g2).1
        omega
    · rw [if_neg c1] at e1
      unfold updR at g1 g2
      rw [if_neg c1] at g1
      by_cases c2 : q' = k
      · rw [if_pos c2] at g2
        have h1 := hg b g2
        have := (h.lo q b1 _ e1 l1 g1).1
        omega
      · rw [if_neg c2] at e2 g2
        exact h.ap q b1 q' b2 b e1 l1 e2 l2 g1 g2
  · rw [hbb] at hq
    unfold updR at hgb
    by_cases e : q = k
    · rw [if_pos e] at hgb
      have h1 := hg b hgb
      exact ⟨h1.2, .inl (Nat.le_trans h.fr.size h1.1)⟩
    · rw [if_neg e] at hq hgb
      have := h.lo q box' b hq hl hgb
      exact ⟨Nat.lt_of_lt_of_le this.1 hw.size, this.2⟩
  · exact ⟨hw.os.trans h.fr.os, hw.tape.trans h.fr.tape, hw.output.trans h.fr.output, Nat.le_trans h.fr.size hw.size, fun b hb hx => (hw.block b (Nat.lt_of_lt_of_le hb h.fr.size) (Nat.lt_of_lt_of_le hb h.fr.size)).trans (h.fr.block b hb hx)⟩
theorem Rel.okmono (h : Rel V X Z w0 N ρ ok lt lb a w) (ho : ∀ q : Key, ok q → ok' q) : Rel V X Z w0 N ρ ok' lt lb a w :=
  ⟨h.size, h.defers, fun t av ht => ⟨(h.tm t av ht).1, (h.tm t av ht).2.imp fun c v hc => hc.keep (Keep.refl _ _) (fun _ _ h => h) (fun _ _ => rfl) ho⟩,
    fun q box hq => ⟨ho q (h.bx q box hq).1, (h.bx q box hq).2.keep (Keep.refl _ _) (fun _ _ h => h) (fun _ _ => rfl) ho (h.bx q box hq).1 (fun _ _ _ => rfl)⟩, h.ap, h.lo, h.fr, h.va, fun q hq => ⟨ho q (h.zz q hq).1, (h.zz q hq).2⟩⟩
end
theorem semVal_run {α : Type} {P : Program} : ∀ {s : Sem α} {x : α}, semVal P s = some x → ∀ w, s.run P w = .ok x w
  | .pure a, x, h, w => by simp [semVal] at h; subst h; rfl
  | .program k, x, h, w => by
    unfold semVal at h
    show (k P).run P w = _
    exact semVal_run h w
  | .mark m k, x, h, w => by
    unfold semVal at h
    show k.run P w = _
    exact semVal_run h w
  | .load .., x, h, w => by simp [semVal] at h
  | .store .., x, h, w => by simp [semVal] at h
  | .new .., x, h, w => by simp [semVal] at h
  | .shape .., x, h, w => by simp [semVal] at h
  | .freeze .., x, h, w => by simp [semVal] at h
  | .frozen .., x, h, w => by simp [semVal] at h
  | .getObj .., x, h, w => by simp [semVal] at h
  | .setObj .., x, h, w => by simp [semVal] at h
  | .choose .., x, h, w => by simp [semVal] at h
  | .sys .., x, h, w => by simp [semVal] at h
  | .halt .., x, h, w => by simp [semVal] at h
section
variable {S : Nat → Prop} {ρ : Key → Hd} {ok : Key → Prop} {w : World}
theorem cellC_sound {v : Value} {c : C} (h : cellC v = some c) : CRel S ρ ok w c v := by
  unfold cellC at h
  split at h
  · cases h; exact ⟨none, rfl⟩
  · split at h
    · cases h; exact .v (by assumption)
    · cases h
theorem cellCs_sound : ∀ {vs : List Value} {cs : List C}, vs.mapM cellC = some cs → All2 (CRel S ρ ok w) cs vs
  | [], cs, h => by simp at h; subst h; exact .nil
  | v :: vs, cs, h => by
    simp only [List.mapM_cons, Option.bind_eq_bind, Option.pure_def] at h
    cases h1 : cellC v with
    | none => simp [h1] at h
    | some c =>
      cases h2 : vs.mapM cellC with
      | none => simp [h1, h2] at h
      | some cs' =>
        simp [h1, h2] at h
        subst h
        exact .cons (cellC_sound h1) (cellCs_sound h2)
theorem constAV_sound {v : Value} {av : AV} (h : constAV v = some av) : AVRel (CRel S ρ ok w) av v := by
  unfold constAV at h
  split at h
  · rename_i cs
    cases h1 : cs.toList.mapM cellC with
    | none => simp [h1] at h
    | some l =>
      simp [h1] at h
      subst h
      exact ⟨cs.toList, cellCs_sound h1, by simp⟩
  · cases h1 : cellC v with
    | none => simp [h1] at h
    | some c =>
      simp [h1] at h
      subst h
      exact ⟨[v], .cons (cellC_sound h1) .nil, by simp⟩
theorem scV_sound {c : C} {v x : Value} (h : scV c = some x) (hc : CRel S ρ ok w c v) : v = x := by
  unfold scV at h
  split at h
  · cases h; exact (Rd.val hc).1
  · cases h
theorem scVs_sound : ∀ {cs : List C} {vs xs : List Value}, cs.mapM scV = some xs → All2 (CRel S ρ ok w) cs vs → vs = xs
  | [], vs, xs, h, hc => by simp at h; subst h; cases hc; rfl
  | c :: cs, vs, xs, h, hc => by
    simp only [List.mapM_cons, Option.bind_eq_bind, Option.pure_def] at h
    cases h1 : scV c with
    | none => simp [h1] at h
    | some x =>
      cases h2 : cs.mapM scV with
      | none => simp [h1, h2] at h
      | some xs' =>
        simp [h1, h2] at h
        subst h
        cases hc with
        | cons a b => rw [scV_sound h1 a, scVs_sound h2 b]
theorem conV_sound {av : AV} {v x : Value} (h : conV av = some x) (hv : AVRel (CRel S ρ ok w) av v) : v = x := by
  unfold conV at h
  split at h
  · rename_i cs
    obtain ⟨vs, h1, h2⟩ := hv
    cases h3 : cs.mapM scV with
    | none => simp [h3] at h
    | some xs =>
      simp [h3] at h
      subst h
      simp at h2
      rw [h2, scVs_sound h3 h1]
  · cases h
    obtain ⟨vs, h1, h2⟩ := hv
    simp at h2
    subst h2
    cases h1 with
    | cons a b => exact (Rd.val a).1
  · cases h
theorem slot1_sound {av : AV} {c : C} {v : Value} (h : slot1 av = some c) (hv : AVRel (CRel S ρ ok w) av v) : CRel S ρ ok w c v := by
  unfold slot1 at h
  split at h
  · cases h
    obtain ⟨vs, h1, h2⟩ := hv
    simp at h2
    subst h2
    cases h1 with
    | cons a b => exact a
  · cases h
theorem one1 {c : C} {v : Value} (h : CRel S ρ ok w c v) : AVRel (CRel S ρ ok w) (.one false [c]) v := ⟨[v], .cons h .nil, by simp⟩
theorem oneAgg {cs : List C} {vs : List Value} (h : All2 (CRel S ρ ok w) cs vs) : AVRel (CRel S ρ ok w) (.one true cs) (.agg vs.toArray) := ⟨vs, h, by simp⟩
theorem cells_of_one {v : Value} (h : v.oneCell' = true) : v.cells = #[v] := by cases v <;> first | rfl | simp [Value.oneCell'] at h
theorem cellsOfAV_sound {av : AV} {cs : List C} {v : Value} (h : cellsOfAV av = some cs) (hv : AVRel (CRel S ρ ok w) av v) : ∃ vs, All2 (CRel S ρ ok w) cs vs ∧ v.cells = vs.toArray ∧ vs.length = cs.length := by
  unfold cellsOfAV at h
  split at h
  · cases h
    obtain ⟨vs, h1, h2⟩ := hv
    simp at h2
    subst h2
    exact ⟨vs, h1, rfl, h1.length.symm⟩
  · cases h
    obtain ⟨vs, h1, h2⟩ := hv
    simp at h2
    subst h2
    refine ⟨[v], h1, ?_, rfl⟩
    cases h1 with
    | cons a b => rw [cells_of_one a.one]
  · cases h
end
section
variable {V X : Nat → Prop} {Z : Key → Option Nat} {w0 w w' : World} {N : Nat} {ρ ρ' : Key → Hd} {ok ok' : Key → Prop} {lt lt' : Nat → Option AV} {lb lb' : Key → Option Box} {a : Act} {P : Program}
theorem ev_sound (h : Rel V X Z w0 N ρ ok lt lb a w) (hl : ∀ t x, lt' t = some x → lt t = some x) {x : Operand} {av : AV} (he : ev lt' x = some av) : AVRel (CRel (Im V ρ lb) ρ ok w) av (a.eval x) := by
  cases x with
  | tmp t => exact (h.tm t av (hl t av he)).2
  | const v => exact constAV_sound he
  | func f => simp [ev] at he; subst he; exact one1 (.v rfl)
  | global g => simp [ev] at he
theorem intV_sound (h : Rel V X Z w0 N ρ ok lt lb a w) (hl : ∀ t x, lt' t = some x → lt t = some x) {x : Operand} {n : Int} (he : intV (ev lt' x) = some n) : ∃ k, a.eval x = .int k n := by
  unfold intV at he
  split at he
  · rename_i k m heq
    cases he
    have := ev_sound h hl heq
    exact ⟨k, conV_sound (av := .one false [.d (.v (.int k n))]) (x := .int k n) rfl this⟩
  · cases he
theorem effPlain_sound (h : Rel V X Z w0 N ρ ok lt lb a w) (hl : ∀ t x, lt' t = some x → lt t = some x) {o : Oper} {e : Eff} (he : effPlain P lt' o = some e) :
    e.up = [] ∧ ∃ v, (execOp a.eval o).run P w = .ok (.value v) w ∧ AVRel (CRel (Im V ρ lb) ρ ok w) e.av v := by
  unfold effPlain at he
  split at he
  · rename_i hc
    simp only [Bool.and_eq_true] at hc
    split at he
    · rename_i v hv
      cases h1 : constAV v with
      | none => simp [h1] at he
      | some av =>
        simp [h1] at he
        subst he
        refine ⟨rfl, v, ?_, constAV_sound h1⟩
        have e1 : execOp a.eval o = execOp (fun x => ((ev lt' x).bind conV).getD undef) o := by
          refine execOp_congr o (fun cs b e => ?_) (fun x hx => ?_)
          · rw [e] at hc; simp [plainOp] at hc
          · have := List.all_eq_true.1 hc.2 x (by simpa using hx)
            cases h2 : ev lt' x with
            | none => simp [h2] at this
            | some av' =>
              cases h3 : conV av' with
              | none => simp [h2, h3] at this
              | some u => simp [h2, h3]; exact conV_sound h3 (ev_sound h hl h2)
        rw [e1]
        exact semVal_run hv w
    · cases he
  · cases he
end
end Go.Proofs.YtnaknldbmapolaaGreatDoor
