/-
  The abstract machine is right: operations that read, compute, or make a variable.
-/
import Derived.Test.YtnaknldbmapolaaGreatDoorAbsS
namespace Go.Proofs.YtnaknldbmapolaaGreatDoor
open Go Go.RowKit
set_option linter.unusedSimpArgs false
set_option linter.unusedVariables false
/-- Behind an operation. -/
abbrev Aft (V X : Nat → Prop) (Z : Key → Option Nat) (w0 : World) (N : Nat) (ok : Key → Prop) (lt : Nat → Option AV) (lb : Key → Option Box) (d : Option Nat) (e : Eff) : Act → World → Prop := fun a w => ∃ ρ, Rel V X Z w0 N ρ ok (updT lt d e.av) (updB lb e.up) a w
theorem updB_nil (lb : Key → Option Box) : updB lb [] = lb := rfl
section
variable {P : Program} {o : Oper} {a : Act} {w w' : World} {K : Act → World → Prop} {Q : Exit → Act → World → Prop}
theorem wp_val {v : Value} (h : (execOp a.eval o).run P w = .ok (.value v) w') (hK : K (a.put o.dst v) w') : o.wp P a w K Q := by
  unfold Oper.wp; rw [h]; exact hK
theorem wp_no (h : (execOp a.eval o).run P w = .ok .skip w') (hK : K (a.put o.dst undef) w') : o.wp P a w K Q := by
  unfold Oper.wp; rw [h]; exact hK
end
section
variable {V X : Nat → Prop} {Z : Key → Option Nat} {w0 w : World} {N : Nat} {ρ : Key → Hd} {ok ok' : Key → Prop} {lt lt' : Nat → Option AV} {lb lb' : Key → Option Box} {a : Act} {P : Program} {o : Oper} {e : Eff} {Q : Exit → Act → World → Prop}
theorem sound_pure (h : Rel V X Z w0 N ρ ok lt lb a w) (ho : ∀ q : Key, ok q → ok' q) (hd : ∀ k, o.dst = some k → k < N) (hu : e.up = []) {v : Value} (hr : (execOp a.eval o).run P w = .ok (.value v) w) (hv : AVRel (CRel (Im V ρ lb) ρ ok w) e.av v) :
    o.wp P a w (Aft V X Z w0 N ok' lt lb o.dst e) Q :=
  wp_val hr ⟨ρ, by rw [hu, updB_nil]; exact h.pure o.dst e.av v hd ho hv⟩
theorem agg_run {P : Program} {w : World} {t : TypeId} {b : Bool} (h : aggT P t = some b) : (isAgg t).run P w = .ok b w := by
  unfold aggT at h
  cases hu : P.underlying t with
  | none => simp [hu] at h
  | some d => cases d <;> simp [hu] at h <;> subst h <;> simp [isAgg, run_underlying hu]
theorem size_run {P : Program} {w : World} {t : TypeId} {n : Nat} (h : sizeT P t = some n) : (sizeOf t).run P w = .ok n w := by
  unfold sizeT at h
  cases hi : P.info? t with
  | none => simp [hi] at h
  | some i => simp [hi] at h; subst h; simp [sizeOf, typeInfo, hi]
theorem run_load1 {P : Program} {w : World} {b o : Nat} {v : Value} (h : w.cell? ⟨b, o, none⟩ = some v) : (Go.load ⟨b, o, none⟩).run P w = .ok v w := by
  simp [Go.load, Sem.run, h]
/-- What a load gives. -/
theorem load_run {R : C → Value → Prop} {cs : List C} {vs : List Value} {b o' off : Nat} {t : TypeId} (hA : All2 R cs vs) (hc : ∀ (j : Nat) (u : Value), vs[j]? = some u → w.cell? ⟨b, o' + j, none⟩ = some u) {av : AV}
    (he : (match some (cs, off), aggT P t, sizeT P t with
      | some (cs, off), some true, some sz => if off + sz ≤ cs.length then some (AV.one true ((cs.drop off).take sz)) else none
      | some (cs, off), some false, some _ => (cs[off]?).map fun c => AV.one false [c]
      | _, _, _ => none) = some av) : ∃ v, (loadVar t ⟨b, o' + off, none⟩).run P w = .ok v w ∧ AVRel R av v := by
  cases hg : aggT P t with
  | none => simp [hg] at he
  | some g =>
    cases hs : sizeT P t with
    | none => cases g <;> simp [hg, hs] at he
    | some sz =>
      cases g with
      | true =>
        simp [hg, hs] at he
        obtain ⟨hle, rfl⟩ := he
        refine ⟨.agg ((vs.drop off).take sz).toArray, ?_, (vs.drop off).take sz, (hA.drop off).take sz, by simp⟩
        have hl := hA.length
        have hl2 : ((vs.drop off).take sz).length = sz := by simp; omega
        have := run_loadCells_list (P := P) w ⟨b, o' + off, none⟩ ((vs.drop off).take sz) (fun j v hv => by
          rw [Addr.add_lit, Nat.add_assoc]
          refine hc _ _ ?_
          rw [List.getElem?_take] at hv
          split at hv
          · rw [List.getElem?_drop] at hv; exact hv
          · cases hv)
        rw [hl2] at this
        simp [loadVar, Sem.run_bind, agg_run hg, size_run hs, this]
      | false =>
        simp [hg, hs] at he
        obtain ⟨c, h1, rfl⟩ := he
        obtain ⟨v, h2, h3⟩ := hA.get h1
        exact ⟨v, by simp only [loadVar, Sem.run_bind, agg_run hg, Result.andThen_ok, Bool.false_eq_true, if_false]; exact run_load1 (hc _ _ h2), [v], .cons h3 .nil, by simp⟩
theorem flat_at {α : Type} {sz : Nat} {rows : List (List α)} (hl : ∀ (i : Nat) (row : List α), rows[i]? = some row → row.length = sz) {i : Nat} {row : List α} (h : rows[i]? = some row) : (rows.flatten.drop (i * sz)).take sz = row := by
  apply List.ext_getElem?
  intro j
  rw [List.getElem?_take]
  have h0 := hl i row h
  by_cases hj : j < sz
  · rw [if_pos hj, List.getElem?_drop, mk_flat hl h hj]
  · rw [if_neg hj, List.getElem?_eq_none (by omega)]
theorem behind_sound (h : Rel V X Z w0 N ρ ok lt lb a w) (hb : ∀ t x, lb' t = some x → lb t = some x) {c : C} {v : Value} {cs : List C} {off : Nat} (he : behind lb' c = some (cs, off)) (hv : CRel (Im V ρ lb) ρ ok w c v) :
    ∃ b o' vs, v = .pointer (some ⟨b, o' + off, none⟩) ∧ All2 (CRel (Im V ρ lb) ρ ok w) cs vs ∧ ∀ (j : Nat) (u : Value), vs[j]? = some u → w.cell? ⟨b, o' + j, none⟩ = some u := by
  cases c with
  | ptr q off' =>
    simp only [behind] at he
    split at he
    · rename_i ty cs' hq
      cases he
      obtain ⟨b, vs, h1, h2, h3⟩ := (h.bx q _ (hb _ _ hq)).2
      obtain ⟨_, b', h4, rfl⟩ := hv
      obtain rfl : b = b' := by rw [h1] at h4; cases h4; rfl
      exact ⟨b, 0, vs, by simp, h3, fun j u hu => by rw [h2.cell]; simpa using hu⟩
    · cases he
  | eptr q i off' =>
    simp only [behind] at he
    split at he
    · rename_i ty sz rows hq
      cases hrow : rows[i]? with
      | none => simp [hrow] at he
      | some row =>
        simp [hrow] at he
        obtain ⟨rfl, rfl⟩ := he
        obtain ⟨h1, h2, h3, h4, h5, h6⟩ := (h.bx q _ (hb _ _ hq)).2
        obtain ⟨_, b', g4, rfl⟩ := hv
        rcases h6 with ⟨_, h7, _⟩ | ⟨b, vs, sp, g1, g2, g3, g5, g6⟩
        · subst h7; simp at hrow
        · obtain rfl : b' = b := by rw [g1] at g4; cases g4; rfl
          have e1 : ((rows.flatten.map C.d).drop (i * sz)).take sz = row.map C.d := by rw [← List.map_drop, ← List.map_take, flat_at h5 hrow]
          refine ⟨b', i * sz, (vs.drop (i * sz)).take sz, by rw [h2], e1 ▸ (g5.drop _).take _, fun j u hu => ?_⟩
          rw [List.getElem?_take] at hu
          split at hu
          · rw [List.getElem?_drop] at hu
            rw [g3.cell]
            have : i * sz + j < vs.length := by
              rcases Nat.lt_or_ge (i * sz + j) vs.length with h | h
              · exact h
              · rw [List.getElem?_eq_none h] at hu; cases hu
            simpa [List.getElem?_append_left this] using hu
          · cases hu
    · cases he
  | rptr row off' =>
    simp only [behind] at he
    cases he
    obtain ⟨b, o', cv, h1, h2, h3, h4⟩ := hv
    refine ⟨b, o', (List.range row.length).map cv, h1, ?_, fun j u hu => ?_⟩
    · have : ∀ (r : List D) (f : Nat → Value), (∀ (j : Nat) (d : D), r[j]? = some d → Rd (Im V ρ lb) w d (f j)) → All2 (CRel (Im V ρ lb) ρ ok w) (r.map C.d) ((List.range r.length).map f) := by
        intro r
        induction r with
        | nil => intro f _; exact .nil
        | cons x r ih =>
          intro f hf
          rw [List.length_cons, List.range_succ_eq_map, List.map_cons, List.map_cons, List.map_map]
          exact .cons (hf 0 x (by simp)) (ih (f ∘ Nat.succ) fun j d hj => hf (j + 1) d (by simpa using hj))
      exact this row cv fun j d hj => (h4 j d hj).2
    · simp only [List.getElem?_map] at hu
      have hj : j < row.length := by
        rcases Nat.lt_or_ge j row.length with h | h
        · exact h
        · rw [List.getElem?_eq_none (by simpa using h)] at hu; cases hu
      rw [List.getElem?_range hj] at hu
      simp at hu
      subst hu
      exact (h4 j row[j] (List.getElem?_eq_getElem hj)).1
  | d d => simp [behind] at he
  | zero => simp [behind] at he
  | own q => simp [behind] at he
  | arr q n z => simp [behind] at he
  | mp q => simp [behind] at he
  | fn g caps => simp [behind] at he
  | dead => simp [behind] at he
theorem effLoad_sound (h : Rel V X Z w0 N ρ ok lt lb a w) (ho : ∀ q : Key, ok q → ok' q) (hd : ∀ k, o.dst = some k → k < N) (hl : ∀ t x, lt' t = some x → lt t = some x) (hb : ∀ t x, lb' t = some x → lb t = some x)
    {t : TypeId} {x : Operand} (hop : o.op = .load t x) (he : effLoad P t x lt' lb' = some e) : o.wp P a w (Aft V X Z w0 N ok' lt lb o.dst e) Q := by
  unfold effLoad at he
  cases h1 : ev lt' x with
  | none => simp [h1] at he
  | some av =>
    cases h2 : slot1 av with
    | none => simp [h1, h2] at he
    | some c =>
      cases h3 : behind lb' c with
      | none => simp [h1, h2, h3] at he
      | some p =>
        obtain ⟨cs, off⟩ := p
        obtain ⟨b, o', vs, e1, e2, e3⟩ := behind_sound h hb h3 (slot1_sound h2 (ev_sound h hl h1))
        have hev : e.up = [] ∧ (match some (cs, off), aggT P t, sizeT P t with
          | some (cs, off), some true, some sz => if off + sz ≤ cs.length then some (AV.one true ((cs.drop off).take sz)) else none
          | some (cs, off), some false, some _ => (cs[off]?).map fun c => AV.one false [c]
          | _, _, _ => none) = some e.av := by
          simp only [h1, h2, h3, Option.bind_some] at he
          cases hg : aggT P t with
          | none => simp [hg] at he
          | some g =>
            cases hs : sizeT P t with
            | none => cases g <;> simp [hg, hs] at he
            | some sz =>
              cases g with
              | true => simp [hg, hs] at he ⊢; obtain ⟨h5, rfl⟩ := he; exact ⟨rfl, h5, rfl⟩
              | false => simp [hg, hs] at he ⊢; obtain ⟨c', h5, rfl⟩ := he; exact ⟨rfl, c', h5, rfl⟩
        obtain ⟨v, r1, r2⟩ := load_run (w := w) (P := P) e2 e3 hev.2
        refine sound_pure h ho hd hev.1 (v := v) ?_ r2
        simp [execOp, hop, Instr.loadAt, Instr.sureAddr, e1, r1]
theorem updB_one (lb : Key → Option Box) (k : Key) (ob : Option Box) (q : Key) : updB lb [(k, ob)] q = if q = k then ob else lb q := by
  unfold updB lk lk
  split <;> simp_all
theorem im_new (h : Rel V X Z w0 N ρ ok lt lb a w) {k : Key} (hk : ¬ ok k) {hd' : Hd} {box : Box} (hg : ∀ b, hd'.g = some b → w.heap.size ≤ b) : ∀ b, b < w.heap.size → Im V ρ lb b → Im V (updR ρ k hd') (updB lb [(k, some box)]) b := by
  intro b hb hi
  refine ⟨hi.1, fun q box' hq hl => ?_⟩
  rw [updB_one] at hq
  unfold updR
  by_cases e : q = k
  · rw [if_pos e]; intro hh; have := hg b hh; omega
  · rw [if_neg e] at hq ⊢
    exact hi.2 q box' hq hl
theorem keep_alloc' (S : Nat → Prop) (w : World) (ob : Obj) : Keep S w (w.alloc ob) := Keep.alloc S w ob
theorem updR_same (ρ : Key → Hd) (k : Key) (hd : Hd) : updR ρ k hd k = hd := if_pos rfl
theorem updR_old {k : Key} (hk : ¬ ok k) (hd : Hd) : ∀ q : Key, ok q → updR ρ k hd q = ρ q := fun q hq => if_neg (fun e : q = k => hk (e ▸ hq))
theorem Rel.newSt (h : Rel V X Z w0 N ρ ok lt lb a w) {k : Key} (hk : ¬ ok k) (hk' : ok' k) (ho : ∀ q : Key, ok q → ok' q) (ty : TypeId) {cs : List C} {vs : List Value} (hA : All2 (CRel (Im V ρ lb) ρ ok w) cs vs) (d : Option Nat) (hd : ∀ k, d = some k → k < N) :
    ∃ ρ', Rel V X Z w0 N ρ' ok' (updT lt d (.one false [.ptr k 0])) (updB lb [(k, some (.st ty cs))]) (a.put d (.pointer (some ⟨w.heap.size, 0, none⟩))) (w.alloc (.cells vs.toArray ty)) := by
  refine ⟨updR ρ k ⟨none, some w.heap.size, 0, 0, 0⟩, h.new d _ _ hd k hk _ _ (fun b hb => by cases hb; simp) hk' ho (Keep.alloc _ _ _) (one1 ⟨hk', w.heap.size, by rw [updR_same], rfl⟩) ⟨w.heap.size, vs, by rw [updR_same], Blk.new _ _ _, ?_⟩⟩
  exact hA.imp fun c v _ hc => hc.keep (Keep.alloc _ _ _) (im_new h hk (fun b hb => by cases hb; exact Nat.le_refl _)) (updR_old hk _) ho
theorem addOff_sound {S : Nat → Prop} {n : Nat} {c c' : C} {v : Value} (he : addOff n c = some c') (hv : CRel S ρ ok w c v) : ∃ b o', v = .pointer (some ⟨b, o', none⟩) ∧ CRel S ρ ok w c' (.pointer (some ⟨b, o' + n, none⟩)) := by
  cases c <;> simp [addOff] at he <;> subst he
  · obtain ⟨h1, b, h2, rfl⟩ := hv; exact ⟨b, _, rfl, h1, b, h2, rfl⟩
  · obtain ⟨h1, b, h2, rfl⟩ := hv; exact ⟨b, _, rfl, h1, b, h2, by rw [Nat.add_assoc]⟩
  · obtain ⟨b, o', cv, rfl, h2, h3, h4⟩ := hv; exact ⟨b, _, rfl, b, o', cv, by rw [Nat.add_assoc], h2, h3, h4⟩
theorem isPtr_sound {S : Nat → Prop} {c : C} {v : Value} (he : isPtr c = true) (hv : CRel S ρ ok w c v) : ∃ ad, v = .pointer (some ad) := by
  cases c <;> simp [isPtr] at he
  · obtain ⟨h1, b, h2, rfl⟩ := hv; exact ⟨_, rfl⟩
  · obtain ⟨h1, b, h2, rfl⟩ := hv; exact ⟨_, rfl⟩
  · obtain ⟨b, o', cv, rfl, h2, h3⟩ := hv; exact ⟨_, rfl⟩
/-- How many rows; a slice's value. -/
theorem rowsOf_sound (h : Rel V X Z w0 N ρ ok lt lb a w) (hb : ∀ t x, lb' t = some x → lb t = some x) {q : Key} {sz : Nat} {rows : List (List D)} (he : rowsOf lb' q = some (sz, rows)) : (ρ q).n = rows.length := by
  unfold rowsOf at he
  split at he
  · rename_i hq; cases he; exact (h.bx q _ (hb _ _ hq)).2.1
  · rename_i hq
    cases he
    have := (h.bx q _ (hb _ _ hq)).2
    simp only [BoxRel] at this
    generalize (ρ q).n = n at this
    generalize (ρ q).A = A at this
    generalize (ρ q).cap = c at this
    cases this with
    | sl => rfl
  · cases he
theorem lenC_sound (h : Rel V X Z w0 N ρ ok lt lb a w) (hb : ∀ t x, lb' t = some x → lb t = some x) {c : C} {v : Value} {n : Nat} (he : lenC lb' c = some n) (hv : CRel (Im V ρ lb) ρ ok w c v) : ∃ A cp, v = .slice A n cp := by
  cases c with
  | zero => simp [lenC] at he; subst he; obtain ⟨A, rfl⟩ := hv; exact ⟨A, 0, rfl⟩
  | d d =>
    cases d with
    | v x => simp [lenC] at he
    | sl sz rows => simp [lenC] at he; subst he; cases hv with | sl => exact ⟨_, _, rfl⟩
  | own q =>
    simp only [lenC] at he
    cases hq : rowsOf lb' q with
    | none => simp [hq] at he
    | some p =>
      simp [hq] at he
      subst he
      obtain ⟨_, rfl⟩ := hv
      rw [rowsOf_sound h hb (sz := p.1) (rows := p.2) hq]
      exact ⟨_, _, rfl⟩
  | ptr => simp [lenC] at he
  | eptr => simp [lenC] at he
  | rptr => simp [lenC] at he
  | arr q m z => simp [lenC] at he; subst he; obtain ⟨_, b, _, rfl⟩ := hv; exact ⟨_, _, rfl⟩
  | mp q => simp [lenC] at he
  | fn g caps => simp [lenC] at he
  | dead => simp [lenC] at he
theorem effIndexAddr_sound (h : Rel V X Z w0 N ρ ok lt lb a w) (ho : ∀ q : Key, ok q → ok' q) (hd : ∀ k, o.dst = some k → k < N) (hl : ∀ t x, lt' t = some x → lt t = some x) (hb : ∀ t x, lb' t = some x → lb t = some x)
    {t : TypeId} {x ix : Operand} (hop : o.op = .indexAddr t x ix) (he : effIndexAddr P t x ix lt' lb' = some e) : o.wp P a w (Aft V X Z w0 N ok' lt lb o.dst e) Q := by
  have key : ∀ (el : TypeId) (sz : Nat) (rows : List (List D)) (i : Int) (row : List D) (v : Value), P.underlying t = some (.slice el) → Rd (Im V ρ lb) w (.sl sz rows) v → a.eval x = v → (∃ k, a.eval ix = .int k i) → sizeT P el = some sz → 0 ≤ i → rows[i.toNat]? = some row → e = { av := .one false [.rptr row 0] } → o.wp P a w (Aft V X Z w0 N ok' lt lb o.dst e) Q := by
    intro el sz rows i row v hu hr hx ⟨k, hi⟩ hs h0 hrow hee
    subst hee
    cases hr with
    | @sl _ _ A c b o' cv hc hb' hA hl' hcell hrd =>
      obtain ⟨g1, g2, g3⟩ := hA (ne_nil_of_get hrow)
      subst g1
      have hlt : i.toNat < rows.length := by
        rcases Nat.lt_or_ge i.toNat rows.length with h | h
        · exact h
        · rw [List.getElem?_eq_none h] at hrow; cases hrow
      refine sound_pure h ho hd rfl (v := .pointer (some ⟨b, o' + i.toNat * sz, none⟩)) ?_ (one1 ⟨b, o' + i.toNat * sz, cv i.toNat, by simp, g2, g3, fun j d hj => ⟨by have := hcell _ _ _ _ hrow hj; rwa [Nat.add_assoc], hrd _ _ _ _ hrow hj⟩⟩)
      have h1 : 0 ≤ i ∧ i < (rows.length : Int) := ⟨h0, by omega⟩
      simp [execOp, hop, Instr.indexAt, asIntOf, hi, hx, run_underlying hu, size_run hs, h1, Addr.add_lit]
  unfold effIndexAddr at he
  cases hu : P.underlying t with
  | none => simp [hu] at he
  | some ud =>
    cases h1 : ev lt' x with
    | none => cases ud <;> simp [hu, h1] at he
    | some av =>
      cases h2 : slot1 av with
      | none => cases ud <;> simp [hu, h1, h2] at he
      | some c =>
        have hc := slot1_sound h2 (ev_sound h hl h1)
        cases h3 : intV (ev lt' ix) with
        | none => cases ud <;> simp [hu, h1, h2, h3] at he <;> (cases c <;> simp at he) <;> (rename_i d; cases d <;> simp at he)
        | some i =>
          have hix := intV_sound h hl h3
          simp only [hu, h1, h2, h3, Option.bind_some] at he
          split at he
          · rename_i el sz rows i' e1 e2 e3
            cases e1; cases e2; cases e3
            split at he
            · rename_i hcond
              cases hrow : rows[i.toNat]? with
              | none => simp [hrow] at he
              | some row =>
                simp [hrow] at he
                exact key el sz rows i row _ hu hc rfl hix hcond.1 hcond.2 hrow he.symm
            · cases he
          · rename_i el q i' e1 e2 e3
            cases e1; cases e2; cases e3
            split at he
            · rename_i ty sz rows hq
              split at he
              · rename_i hcond
                cases he
                obtain ⟨g1, g2, g3, g4, g5, g6⟩ := (h.bx q _ (hb _ _ hq)).2
                obtain ⟨hok, hx⟩ := hc
                rcases g6 with ⟨_, rfl, _⟩ | ⟨b, vs, sp, k1, k2, k3, k4, k5⟩
                · simp at hcond
                · obtain ⟨kk, hi⟩ := hix
                  refine sound_pure h ho hd rfl (v := .pointer (some ⟨b, i.toNat * sz, none⟩)) ?_ (one1 ⟨hok, b, k1, by rw [g2]; simp⟩)
                  have h1 : 0 ≤ i ∧ i < (rows.length : Int) := ⟨hcond.2.1, by omega⟩
                  simp [execOp, hop, Instr.indexAt, asIntOf, hi, hx, run_underlying hu, size_run hcond.1, g1, k2, h1, Addr.add_lit]
              · cases he
            · rename_i sz rows hq
              split at he
              · rename_i hcond
                cases hrow : rows[i.toNat]? with
                | none => simp [hrow] at he
                | some row =>
                  simp [hrow] at he
                  exact key el sz rows i row _ hu (h.bx q _ (hb _ _ hq)).2 hc.2 hix hcond.1 hcond.2 hrow he.symm
              · cases he
            · cases he
          · rename_i el q n z i' e1 e2 e3
            cases e1; cases e2; cases e3
            split at he
            · rename_i sz hs
              split at he
              · rename_i hcond
                cases he
                obtain ⟨hok, b, hg, hx⟩ := hc
                obtain ⟨kk, hi⟩ := hix
                refine sound_pure h ho hd rfl (v := .pointer (some ⟨b, i.toNat * sz, none⟩)) ?_ (one1 ⟨hok, b, hg, rfl⟩)
                have h1 : 0 ≤ i ∧ i < (n : Int) := hcond.2
                simp [execOp, hop, Instr.indexAt, asIntOf, hi, hx, run_underlying hu, size_run hs, h1, Addr.add_lit]
              · cases he
            · cases he
          · rename_i n el c' i' e1 e2 e3
            cases e1; cases e2; cases e3
            split at he
            · rename_i sz hs
              split at he
              · rename_i hcond
                cases h4 : addOff (i.toNat * sz) c with
                | none => simp [h4] at he
                | some c' =>
                  simp [h4] at he
                  subst he
                  obtain ⟨b, o', k1, k2⟩ := addOff_sound h4 hc
                  obtain ⟨kk, hi⟩ := hix
                  refine sound_pure h ho hd rfl ?_ (one1 k2)
                  simp [execOp, hop, Instr.indexAt, asIntOf, hi, k1, run_underlying hu, size_run hs, hcond, Instr.sureAddr, Addr.add_lit]
              · cases he
            · cases he
          · cases he
end
end Go.Proofs.YtnaknldbmapolaaGreatDoor
