/- Rules of runs and contracts of functions, for the claims of one seat. -/
import Derived.Great.BuildSlice
import Derived.Test.YtjpdemikmdfonaaGreatDoorFA3
namespace Go.Proofs.YtjpdemikmdfonaaGreatDoor
open Go Go.RowKit
set_option linter.unusedSimpArgs false
set_option linter.unusedVariables false
abbrev Aft (V X : Nat → Prop) (Z : Key → Hd) (w0 : World) (N : Nat) (ok : Key → Prop) (lt : Nat → Option AV) (lb : Key → Option Box) (d : Option Nat) (e : Eff) : Act → World → Prop := fun a w => ∃ ρ, Rel V X Z w0 N ρ ok (updT lt d e.av) (updB lb e.up) a w
theorem updB_nil (lb : Key → Option Box) : updB lb [] = lb := rfl
section
variable {P : Program} {o : Oper} {a : Act} {w w' : World} {K : Act → World → Prop} {Q : Exit → Act → World → Prop}
theorem wp_val {v : Value} (h : (execOp a.eval o).run P w = .ok (.value v) w') (hK : K (a.put o.dst v) w') : o.wp P a w K Q := by
 unfold Oper.wp; rw [h]; exact hK
theorem wp_no (h : (execOp a.eval o).run P w = .ok .skip w') (hK : K (a.put o.dst undef) w') : o.wp P a w K Q := by
 unfold Oper.wp; rw [h]; exact hK
end
section
variable {V X : Nat → Prop} {Z : Key → Hd} {w0 w : World} {N : Nat} {ρ : Key → Hd} {ok ok' : Key → Prop} {lt lt' : Nat → Option AV} {lb lb' : Key → Option Box} {a : Act} {P : Program} {o : Oper} {e : Eff} {Q : Exit → Act → World → Prop}
theorem sound_pure (h : Rel V X Z w0 N ρ ok lt lb a w) (ho : ∀ q : Key, ok q → ok' q) (hd : ∀ k, o.dst = some k → k < N) (hu : e.up = []) {v : Value} (hr : (execOp a.eval o).run P w = .ok (.value v) w) (hv : AVRel (CRel (Im V ρ lb) ρ ok w) e.av v) :
    o.wp P a w (Aft V X Z w0 N ok' lt lb o.dst e) Q :=
 wp_val hr ⟨ρ, by rw [hu, updB_nil]; exact h.pure o.dst e.av v hd ho hv⟩
theorem agg_run {P : Program} {w : World} {t : TypeId} {b : Bool} (h : aggT P t = some b) : (isAgg t).run P w = .ok b w := by
 unfold aggT at h
 cases hu : P.underlying t with
 | none => simp [hu] at h
 | some d => cases d <;> simp [hu] at h <;> subst h <;> simp [isAgg, run_underlying hu]
theorem size_run {P : Program} {w : World} {t : TypeId} {n : Nat} (h : sizeT P t = some n) : (sizeOf t).run P w = .ok n w := by
 unfold sizeT at h
 cases hi : P.info? t with
 | none => simp [hi] at h
 | some i => simp [hi] at h; subst h; simp [sizeOf, typeInfo, hi]
theorem run_load1 {P : Program} {w : World} {b o : Nat} {v : Value} (h : w.cell? ⟨b, o, none⟩ = some v) : (Go.load ⟨b, o, none⟩).run P w = .ok v w := by
 simp [Go.load, Sem.run, h]
theorem load_run {R : C → Value → Prop} {cs : List C} {vs : List Value} {b o' off : Nat} {t : TypeId} (hA : All2 R cs vs) (hc : ∀ (j : Nat) (u : Value), vs[j]? = some u → w.cell? ⟨b, o' + j, none⟩ = some u) {av : AV}
    (he : (match some (cs, off), aggT P t, sizeT P t with
     | some (cs, off), some true, some sz => if off + sz ≤ cs.length then some (AV.one true ((cs.drop off).take sz)) else none
     | some (cs, off), some false, some _ => (cs[off]?).map fun c => AV.one false [c]
     | _, _, _ => none) = some av) : ∃ v, (loadVar t ⟨b, o' + off, none⟩).run P w = .ok v w ∧ AVRel R av v := by
 cases hg : aggT P t with
 | none => simp [hg] at he
 | some g =>
  cases hs : sizeT P t with
  | none => cases g <;> simp [hg, hs] at he
  | some sz =>
   cases g with
   | true =>
    simp [hg, hs] at he
    obtain ⟨hle, rfl⟩ := he
    refine ⟨.agg ((vs.drop off).take sz).toArray, ?_, (vs.drop off).take sz, (hA.drop off).take sz, by simp⟩
    have hl := hA.length
    have hl2 : ((vs.drop off).take sz).length = sz := by simp; omega
    have := run_loadCells_list (P := P) w ⟨b, o' + off, none⟩ ((vs.drop off).take sz) (fun j v hv => by
     rw [Addr.add_lit, Nat.add_assoc]
     refine hc _ _ ?_
     rw [List.getElem?_take] at hv
     split at hv
     ·rw [List.getElem?_drop] at hv; exact hv
     ·cases hv)
    rw [hl2] at this
    simp [loadVar, Sem.run_bind, agg_run hg, size_run hs, this]
   | false =>
    simp [hg, hs] at he
    obtain ⟨c, h1, rfl⟩ := he
    obtain ⟨v, h2, h3⟩ := hA.get h1
    exact ⟨v, by simp only [loadVar, Sem.run_bind, agg_run hg, Result.andThen_ok, Bool.false_eq_true, if_false]; exact run_load1 (hc _ _ h2), [v], .cons h3 .nil, by simp⟩
theorem flat_at {α : Type} {sz : Nat} {rows : List (List α)} (hl : ∀ (i : Nat) (row : List α), rows[i]? = some row → row.length = sz) {i : Nat} {row : List α} (h : rows[i]? = some row) : (rows.flatten.drop (i * sz)).take sz = row := by
 apply List.ext_getElem?
 intro j
 rw [List.getElem?_take]
 have h0 := hl i row h
 by_cases hj : j < sz
 ·rw [if_pos hj, List.getElem?_drop, mk_flat hl h hj]
 ·rw [if_neg hj, List.getElem?_eq_none (by omega)]
theorem behind_sound (h : Rel V X Z w0 N ρ ok lt lb a w) (hb : ∀ t x, lb' t = some x → lb t = some x) {c : C} {v : Value} {cs : List C} {off : Nat} (he : behind lb' c = some (cs, off)) (hv : CRel (Im V ρ lb) ρ ok w c v) :
    ∃ b o' vs, v = .pointer (some ⟨b, o' + off, none⟩) ∧ All2 (CRel (Im V ρ lb) ρ ok w) cs vs ∧ ∀ (j : Nat) (u : Value), vs[j]? = some u → w.cell? ⟨b, o' + j, none⟩ = some u := by
 cases c with
 | ptr q off' =>
  simp only [behind] at he
  split at he
  ·rename_i ty cs' hq
   cases he
   obtain ⟨b, vs, h1, h2, h3⟩ := (h.bx q _ (hb _ _ hq)).2
   obtain ⟨_, b', h4, rfl⟩ := hv
   obtain rfl : b = b' := by rw [h1] at h4; cases h4; rfl
   exact ⟨b, 0, vs, by simp, h3, fun j u hu => by rw [h2.cell]; simpa using hu⟩
  ·cases he
 | eptr q i off' =>
  simp only [behind] at he
  split at he
  ·rename_i ty sz rows hq
   cases hrow : rows[i]? with
   | none => simp [hrow] at he
   | some row =>
    simp [hrow] at he
    obtain ⟨rfl, rfl⟩ := he
    obtain ⟨h1, h2, h3, h4, h5, h6⟩ := (h.bx q _ (hb _ _ hq)).2
    obtain ⟨_, b', g4, rfl⟩ := hv
    rcases h6 with ⟨_, h7, _⟩ | ⟨b, vs, sp, g1, g2, g3, g5, g6⟩
    ·subst h7; simp at hrow
    ·obtain rfl : b' = b := by rw [g1] at g4; cases g4; rfl
     have e1 : ((rows.flatten.map C.d).drop (i * sz)).take sz = row.map C.d := by rw [← List.map_drop, ← List.map_take, flat_at h5 hrow]
     refine ⟨b', i * sz, (vs.drop (i * sz)).take sz, by rw [h2], e1 ▸ (g5.drop _).take _, fun j u hu => ?_⟩
     rw [List.getElem?_take] at hu
     split at hu
     ·rw [List.getElem?_drop] at hu
      rw [g3.cell]
      have : i * sz + j < vs.length := by
       rcases Nat.lt_or_ge (i * sz + j) vs.length with h | h
       ·exact h
       ·rw [List.getElem?_eq_none h] at hu; cases hu
      simpa [List.getElem?_append_left this] using hu
     ·cases hu
  ·rename_i ty sz rows hq
   cases hrow : rows[i]? with
   | none => simp [hrow] at he
   | some row =>
    simp [hrow] at he
    obtain ⟨rfl, rfl⟩ := he
    obtain ⟨h1, h2, h3, h4, h5, h6⟩ := (h.bx q _ (hb _ _ hq)).2
    obtain ⟨_, b', g4, rfl⟩ := hv
    rcases h6 with ⟨_, h7, _⟩ | ⟨b, vs, sp, g1, g2, g3, g5, g6⟩
    ·subst h7; simp at hrow
    ·obtain rfl : b' = b := by rw [g1] at g4; cases g4; rfl
     have e1 : (rows.flatten.drop (i * sz)).take sz = row := flat_at h5 hrow
     refine ⟨b', i * sz, (vs.drop (i * sz)).take sz, by rw [h2], e1 ▸ (g5.drop _).take _, fun j u hu => ?_⟩
     rw [List.getElem?_take] at hu
     split at hu
     ·rw [List.getElem?_drop] at hu
      rw [g3.cell]
      have : i * sz + j < vs.length := by
       rcases Nat.lt_or_ge (i * sz + j) vs.length with h | h
       ·exact h
       ·rw [List.getElem?_eq_none h] at hu; cases hu
      simpa [List.getElem?_append_left this] using hu
     ·cases hu
  ·cases he
 | rptr row off' =>
  simp only [behind] at he
  cases he
  obtain ⟨b, o', cv, h1, h2, h3, h4⟩ := hv
  refine ⟨b, o', (List.range row.length).map cv, h1, ?_, fun j u hu => ?_⟩
  ·have : ∀ (r : List D) (f : Nat → Value), (∀ (j : Nat) (d : D), r[j]? = some d → Rd (Im V ρ lb) w d (f j)) → All2 (CRel (Im V ρ lb) ρ ok w) (r.map C.d) ((List.range r.length).map f) := by
     intro r
     induction r with
     | nil => intro f _; exact .nil
     | cons x r ih =>
      intro f hf
      rw [List.length_cons, List.range_succ_eq_map, List.map_cons, List.map_cons, List.map_map]
      exact .cons (hf 0 x (by simp)) (ih (f ∘ Nat.succ) fun j d hj => hf (j + 1) d (by simpa using hj))
   exact this row cv fun j d hj => (h4 j d hj).2
  ·simp only [List.getElem?_map] at hu
   have hj : j < row.length := by
    rcases Nat.lt_or_ge j row.length with h | h
    ·exact h
    ·rw [List.getElem?_eq_none (by simpa using h)] at hu; cases hu
   rw [List.getElem?_range hj] at hu
   simp at hu
   subst hu
   exact (h4 j row[j] (List.getElem?_eq_getElem hj)).1
 | d d => simp [behind] at he
 | zero => simp [behind] at he
 | own q => simp [behind] at he
 | arr q n z => simp [behind] at he
 | mp q => simp [behind] at he
 | fn g caps => simp [behind] at he
 | dead => simp [behind] at he
theorem effLoad_sound (h : Rel V X Z w0 N ρ ok lt lb a w) (ho : ∀ q : Key, ok q → ok' q) (hd : ∀ k, o.dst = some k → k < N) (hl : ∀ t x, lt' t = some x → lt t = some x) (hb : ∀ t x, lb' t = some x → lb t = some x)
    {t : TypeId} {x : Operand} (hop : o.op = .load t x) (he : effLoad P t x lt' lb' = some e) : o.wp P a w (Aft V X Z w0 N ok' lt lb o.dst e) Q := by
 unfold effLoad at he
 cases h1 : ev lt' x with
 | none => simp [h1] at he
 | some av =>
  cases h2 : slot1 av with
  | none => simp [h1, h2] at he
  | some c =>
   cases h3 : behind lb' c with
   | none => simp [h1, h2, h3] at he
   | some p =>
    obtain ⟨cs, off⟩ := p
    obtain ⟨b, o', vs, e1, e2, e3⟩ := behind_sound h hb h3 (slot1_sound h2 (ev_sound h hl h1))
    have hev : e.up = [] ∧ (match some (cs, off), aggT P t, sizeT P t with
     | some (cs, off), some true, some sz => if off + sz ≤ cs.length then some (AV.one true ((cs.drop off).take sz)) else none
     | some (cs, off), some false, some _ => (cs[off]?).map fun c => AV.one false [c]
     | _, _, _ => none) = some e.av := by
     simp only [h1, h2, h3, Option.bind_some] at he
     cases hg : aggT P t with
     | none => simp [hg] at he
     | some g =>
      cases hs : sizeT P t with
      | none => cases g <;> simp [hg, hs] at he
      | some sz =>
       cases g with
       | true => simp [hg, hs] at he ⊢; obtain ⟨h5, rfl⟩ := he; exact ⟨rfl, h5, rfl⟩
       | false => simp [hg, hs] at he ⊢; obtain ⟨c', h5, rfl⟩ := he; exact ⟨rfl, c', h5, rfl⟩
    obtain ⟨v, r1, r2⟩ := load_run (w := w) (P := P) e2 e3 hev.2
    refine sound_pure h ho hd hev.1 (v := v) ?_ r2
    simp [execOp, hop, Instr.loadAt, Instr.sureAddr, e1, r1]
theorem updB_one (lb : Key → Option Box) (k : Key) (ob : Option Box) (q : Key) : updB lb [(k, ob)] q = if q = k then ob else lb q := by
 unfold updB lk lk
 split <;> simp_all
theorem im_new (h : Rel V X Z w0 N ρ ok lt lb a w) {k : Key} (hk : ¬ ok k) {hd' : Hd} {box : Box} (hg : ∀ b, hd'.g = some b → w.heap.size ≤ b) : ∀ b, b < w.heap.size → Im V ρ lb b → Im V (updR ρ k hd') (updB lb [(k, some box)]) b := by
 intro b hb hi
 refine ⟨hi.1, fun q box' hq hl => ?_⟩
 rw [updB_one] at hq
 unfold updR
 by_cases e : q = k
 ·rw [if_pos e]; intro hh; have := hg b hh; omega
 ·rw [if_neg e] at hq ⊢
  exact hi.2 q box' hq hl
theorem updR_same (ρ : Key → Hd) (k : Key) (hd : Hd) : updR ρ k hd k = hd := if_pos rfl
theorem updR_old {k : Key} (hk : ¬ ok k) (hd : Hd) : ∀ q : Key, ok q → updR ρ k hd q = ρ q := fun q hq => if_neg (fun e : q = k => hk (e ▸ hq))
theorem Rel.newSt (h : Rel V X Z w0 N ρ ok lt lb a w) {k : Key} (hk : ¬ ok k) (hk' : ok' k) (ho : ∀ q : Key, ok q → ok' q) (ty : TypeId) {cs : List C} {vs : List Value} (hA : All2 (CRel (Im V ρ lb) ρ ok w) cs vs) (d : Option Nat) (hd : ∀ k, d = some k → k < N) :
    ∃ ρ', Rel V X Z w0 N ρ' ok' (updT lt d (.one false [.ptr k 0])) (updB lb [(k, some (.st ty cs))]) (a.put d (.pointer (some ⟨w.heap.size, 0, none⟩))) (w.alloc (.cells vs.toArray ty)) := by
 refine ⟨updR ρ k ⟨none, some w.heap.size, 0, 0, 0⟩, h.new d _ _ hd k hk _ _ (fun b hb => by cases hb; simp) hk' ho (Keep.alloc _ _ _) (one1 ⟨hk', w.heap.size, by rw [updR_same], rfl⟩) ⟨w.heap.size, vs, by rw [updR_same], Blk.new _ _ _, ?_⟩⟩
 exact hA.imp fun c v _ hc => hc.keep (Keep.alloc _ _ _) (im_new h hk (fun b hb => by cases hb; exact Nat.le_refl _)) (updR_old hk _) ho
theorem addOff_sound {S : Nat → Prop} {n : Nat} {c c' : C} {v : Value} (he : addOff n c = some c') (hv : CRel S ρ ok w c v) : ∃ b o', v = .pointer (some ⟨b, o', none⟩) ∧ CRel S ρ ok w c' (.pointer (some ⟨b, o' + n, none⟩)) := by
 cases c <;> simp [addOff] at he <;> subst he
 ·obtain ⟨h1, b, h2, rfl⟩ := hv; exact ⟨b, _, rfl, h1, b, h2, rfl⟩
 ·obtain ⟨h1, b, h2, rfl⟩ := hv; exact ⟨b, _, rfl, h1, b, h2, by rw [Nat.add_assoc]⟩
 ·obtain ⟨b, o', cv, rfl, h2, h3, h4⟩ := hv; exact ⟨b, _, rfl, b, o', cv, by rw [Nat.add_assoc], h2, h3, h4⟩
theorem isPtr_sound {S : Nat → Prop} {c : C} {v : Value} (he : isPtr c = true) (hv : CRel S ρ ok w c v) : ∃ ad, v = .pointer (some ad) := by
 cases c <;> simp [isPtr] at he
 ·obtain ⟨h1, b, h2, rfl⟩ := hv; exact ⟨_, rfl⟩
 ·obtain ⟨h1, b, h2, rfl⟩ := hv; exact ⟨_, rfl⟩
 ·obtain ⟨b, o', cv, rfl, h2, h3⟩ := hv; exact ⟨_, rfl⟩
theorem rowsOf_sound (h : Rel V X Z w0 N ρ ok lt lb a w) (hb : ∀ t x, lb' t = some x → lb t = some x) {q : Key} {sz : Nat} {rows : List (List D)} (he : rowsOf lb' q = some (sz, rows)) : (ρ q).n = rows.length := by
 unfold rowsOf at he
 split at he
 ·rename_i hq; cases he; exact (h.bx q _ (hb _ _ hq)).2.1
 ·rename_i hq
  cases he
  have := (h.bx q _ (hb _ _ hq)).2
  simp only [BoxRel] at this
  generalize (ρ q).n = n at this
  generalize (ρ q).A = A at this
  generalize (ρ q).cap = c at this
  cases this with
  | sl => rfl
 ·cases he
theorem lenC_sound (h : Rel V X Z w0 N ρ ok lt lb a w) (hb : ∀ t x, lb' t = some x → lb t = some x) {c : C} {v : Value} {n : Nat} (he : lenC lb' c = some n) (hv : CRel (Im V ρ lb) ρ ok w c v) : ∃ A cp, v = .slice A n cp := by
 cases c with
 | zero => simp [lenC] at he; subst he; obtain ⟨A, rfl⟩ := hv; exact ⟨A, 0, rfl⟩
 | d d =>
  cases d with
  | v x => simp [lenC] at he
  | sl sz rows => simp [lenC] at he; subst he; cases hv with | sl => exact ⟨_, _, rfl⟩
 | own q =>
  simp only [lenC] at he
  split at he
  ·rename_i hq
   cases he
   obtain ⟨_, rfl⟩ := hv
   exact ⟨_, _, by rw [(h.bx q _ (hb _ _ hq)).2.1]⟩
  ·cases hq : rowsOf lb' q with
   | none => simp [hq] at he
   | some p =>
    simp [hq] at he
    subst he
    obtain ⟨_, rfl⟩ := hv
    rw [rowsOf_sound h hb (sz := p.1) (rows := p.2) hq]
    exact ⟨_, _, rfl⟩
 | ptr => simp [lenC] at he
 | eptr => simp [lenC] at he
 | rptr => simp [lenC] at he
 | arr q m z => simp [lenC] at he; subst he; obtain ⟨_, b, _, cp, _, rfl⟩ := hv; exact ⟨_, _, rfl⟩
 | mp q => simp [lenC] at he
 | fn g caps => simp [lenC] at he
 | dead => simp [lenC] at he
theorem effIndexAddr_sound (h : Rel V X Z w0 N ρ ok lt lb a w) (ho : ∀ q : Key, ok q → ok' q) (hd : ∀ k, o.dst = some k → k < N) (hl : ∀ t x, lt' t = some x → lt t = some x) (hb : ∀ t x, lb' t = some x → lb t = some x)
    {t : TypeId} {x ix : Operand} (hop : o.op = .indexAddr t x ix) (he : effIndexAddr P t x ix lt' lb' = some e) : o.wp P a w (Aft V X Z w0 N ok' lt lb o.dst e) Q := by
 have key : ∀ (el : TypeId) (sz : Nat) (rows : List (List D)) (i : Int) (row : List D) (v : Value), P.underlying t = some (.slice el) → Rd (Im V ρ lb) w (.sl sz rows) v → a.eval x = v → (∃ k, a.eval ix = .int k i) → sizeT P el = some sz → 0 ≤ i → rows[i.toNat]? = some row → e = { av := .one false [.rptr row 0] } → o.wp P a w (Aft V X Z w0 N ok' lt lb o.dst e) Q := by
  intro el sz rows i row v hu hr hx ⟨k, hi⟩ hs h0 hrow hee
  subst hee
  cases hr with
  | @sl _ _ A c b o' cv hc hb' hA hl' hcell hrd =>
   obtain ⟨g1, g2, g3⟩ := hA (ne_nil_of_get hrow)
   subst g1
   have hlt : i.toNat < rows.length := by
    rcases Nat.lt_or_ge i.toNat rows.length with h | h
    ·exact h
    ·rw [List.getElem?_eq_none h] at hrow; cases hrow
   refine sound_pure h ho hd rfl (v := .pointer (some ⟨b, o' + i.toNat * sz, none⟩)) ?_ (one1 ⟨b, o' + i.toNat * sz, cv i.toNat, by simp, g2, g3, fun j d hj => ⟨by have := hcell _ _ _ _ hrow hj; rwa [Nat.add_assoc], hrd _ _ _ _ hrow hj⟩⟩)
   have h1 : 0 ≤ i ∧ i < (rows.length : Int) := ⟨h0, by omega⟩
   simp [execOp, hop, Instr.indexAt, asIntOf, hi, hx, run_underlying hu, size_run hs, h1, Addr.add_lit]
 unfold effIndexAddr at he
 cases hu : P.underlying t with
 | none => simp [hu] at he
 | some ud =>
  cases h1 : ev lt' x with
  | none => cases ud <;> simp [hu, h1] at he
  | some av =>
   cases h2 : slot1 av with
   | none => cases ud <;> simp [hu, h1, h2] at he
   | some c =>
    have hc := slot1_sound h2 (ev_sound h hl h1)
    cases h3 : intV (ev lt' ix) with
    | none => cases ud <;> simp [hu, h1, h2, h3] at he <;> (cases c <;> simp at he) <;> (rename_i d; cases d <;> simp at he)
    | some i =>
     have hix := intV_sound h hl h3
     simp only [hu, h1, h2, h3, Option.bind_some] at he
     split at he
     ·rename_i el sz rows i' e1 e2 e3
      cases e1; cases e2; cases e3
      split at he
      ·rename_i hcond
       cases hrow : rows[i.toNat]? with
       | none => simp [hrow] at he
       | some row =>
        simp [hrow] at he
        exact key el sz rows i row _ hu hc rfl hix hcond.1 hcond.2 hrow he.symm
      ·cases he
     ·rename_i el q i' e1 e2 e3
      cases e1; cases e2; cases e3
      split at he
      ·rename_i ty sz rows hq
       split at he
       ·rename_i hcond
        cases he
        obtain ⟨g1, g2, g3, g4, g5, g6⟩ := (h.bx q _ (hb _ _ hq)).2
        obtain ⟨hok, hx⟩ := hc
        rcases g6 with ⟨_, rfl, _⟩ | ⟨b, vs, sp, k1, k2, k3, k4, k5⟩
        ·simp at hcond
        ·obtain ⟨kk, hi⟩ := hix
         refine sound_pure h ho hd rfl (v := .pointer (some ⟨b, i.toNat * sz, none⟩)) ?_ (one1 ⟨hok, b, k1, by rw [g2]; simp⟩)
         have h1 : 0 ≤ i ∧ i < (rows.length : Int) := ⟨hcond.2.1, by omega⟩
         simp [execOp, hop, Instr.indexAt, asIntOf, hi, hx, run_underlying hu, size_run hcond.1, g1, k2, h1, Addr.add_lit]
       ·cases he
      ·rename_i sz rows hq
       split at he
       ·rename_i hcond
        cases hrow : rows[i.toNat]? with
        | none => simp [hrow] at he
        | some row =>
         simp [hrow] at he
         exact key el sz rows i row _ hu (h.bx q _ (hb _ _ hq)).2 hc.2 hix hcond.1 hcond.2 hrow he.symm
       ·cases he
      ·rename_i ty sz rows hq
       split at he
       ·rename_i hcond
        cases he
        obtain ⟨g1, g2, g3, g4, g5, g6⟩ := (h.bx q _ (hb _ _ hq)).2
        obtain ⟨hok, hx⟩ := hc
        rcases g6 with ⟨_, rfl, _⟩ | ⟨b, vs, sp, k1, k2, k3, k4, k5⟩
        ·simp at hcond
        ·obtain ⟨kk, hi⟩ := hix
         refine sound_pure h ho hd rfl (v := .pointer (some ⟨b, i.toNat * sz, none⟩)) ?_ (one1 ⟨hok, b, k1, by rw [g2]; simp⟩)
         have h1 : 0 ≤ i ∧ i < (rows.length : Int) := ⟨hcond.2.1, by omega⟩
         simp [execOp, hop, Instr.indexAt, asIntOf, hi, hx, run_underlying hu, size_run hcond.1, g1, k2, h1, Addr.add_lit]
       ·cases he
      ·cases he
     ·rename_i el q n z i' e1 e2 e3
      cases e1; cases e2; cases e3
      split at he
      ·rename_i sz hs
       split at he
       ·rename_i hcond
        cases he
        obtain ⟨hok, b, hg, cp, _, hx⟩ := hc
        obtain ⟨kk, hi⟩ := hix
        refine sound_pure h ho hd rfl (v := .pointer (some ⟨b, i.toNat * sz, none⟩)) ?_ (one1 ⟨hok, b, hg, rfl⟩)
        have h1 : 0 ≤ i ∧ i < (n : Int) := hcond.2
        simp [execOp, hop, Instr.indexAt, asIntOf, hi, hx, run_underlying hu, size_run hs, h1, Addr.add_lit]
       ·cases he
      ·cases he
     ·rename_i n el c' i' e1 e2 e3
      cases e1; cases e2; cases e3
      split at he
      ·rename_i sz hs
       split at he
       ·rename_i hcond
        cases h4 : addOff (i.toNat * sz) c with
        | none => simp [h4] at he
        | some c' =>
         simp [h4] at he
         subst he
         obtain ⟨b, o', k1, k2⟩ := addOff_sound h4 hc
         obtain ⟨kk, hi⟩ := hix
         refine sound_pure h ho hd rfl ?_ (one1 k2)
         simp [execOp, hop, Instr.indexAt, asIntOf, hi, k1, run_underlying hu, size_run hs, hcond, Instr.sureAddr, Addr.add_lit]
       ·cases he
      ·cases he
     ·cases he
end
end Go.Proofs.YtjpdemikmdfonaaGreatDoor
namespace Go.Proofs.YtjpdemikmdfonaaGreatDoor
open Go Go.RowKit
set_option linter.unusedSimpArgs false
set_option linter.unusedVariables false
theorem set_fold (off : Nat) : ∀ (us : List Value) (k : Nat) (vs : List Value), off + k + us.length ≤ vs.length →
    (us.zipIdx k).foldl (fun (cs : Array Value) (p : Value × Nat) => cs.setIfInBounds (off + p.2) p.1) vs.toArray = (vs.take (off + k) ++ (us ++ vs.drop (off + k + us.length))).toArray
 | [], k, vs, h => by simp
 | u :: us, k, vs, h => by
  simp only [List.zipIdx_cons, List.foldl_cons]
  simp only [List.length_cons] at h
  have e1 : vs.toArray.setIfInBounds (off + k) u = (vs.set (off + k) u).toArray := by simp
  rw [e1, set_fold off us (k + 1) (vs.set (off + k) u) (by simp; omega)]
  congr 1
  apply List.ext_getElem?
  intro i
  simp only [List.getElem?_append, List.length_take, List.length_set, List.length_cons, List.length_append, List.length_drop, List.getElem?_take, List.getElem?_drop, List.getElem?_set, List.getElem?_cons]
  grind
section
variable {R : C → Value → Prop}
inductive Parts (R : C → Value → Prop) : List (Nat × List C) → List (Nat × Value) → Prop
 | nil : Parts R [] []
 | cons {i : Nat} {cs : List C} {v : Value} {us : List Value} {ps : List (Nat × List C)} {vs : List (Nat × Value)} (h : All2 R cs us) (hv : v.cells = us.toArray) (t : Parts R ps vs) : Parts R ((i, cs) :: ps) ((i, v) :: vs)
theorem afill_sound (place : Nat → Option (Nat × Nat)) : ∀ {ps : List (Nat × List C)} {vps : List (Nat × Value)} {cs cs' : List C} {vs : List Value}, Parts R ps vps → afill place cs ps = some cs' → All2 R cs vs →
    ∃ vs', Instr.fill place vs.toArray vps = some vs'.toArray ∧ All2 R cs' vs'
 | [], _, cs, cs', vs, .nil, h, hA => by simp [afill] at h; subst h; exact ⟨vs, rfl, hA⟩
 | (i, xs) :: ps, _, cs, cs', vs, .cons (v := v) (us := us) (vs := vps) hx hv ht, h, hA => by
  unfold afill at h
  split at h
  ·cases h
  ·rename_i off size hp
   split at h
   ·rename_i hc
    have l1 := hx.length
    have l2 := hA.length
    have hA' := (hA.take off).append (hx.append (hA.drop (off + xs.length)))
    obtain ⟨vs', h1, h2⟩ := afill_sound place ht h hA'
    refine ⟨vs', ?_, h2⟩
    unfold Instr.fill
    simp only [hp]
    have e1 : v.cells.size = us.length := by rw [hv]; simp
    rw [if_neg (by simp [e1]; omega)]
    have e2 : Array.foldl (fun (cs : Array Value) (x : Value × Nat) => cs.setIfInBounds (off + x.2) x.1) vs.toArray v.cells.zipIdx = (vs.take off ++ (us ++ vs.drop (off + xs.length))).toArray := by
     rw [hv, l1]
     have := set_fold off us 0 vs (by omega)
     simp only [Nat.add_zero] at this
     rw [← this]
     simp
    rw [← h1, ← e2]
   ·cases h
end
section
variable {V X : Nat → Prop} {Z : Key → Hd} {w0 w : World} {N : Nat} {ρ : Key → Hd} {ok ok' : Key → Prop} {lt lt' : Nat → Option AV} {lb lb' : Key → Option Box} {a : Act} {P : Program} {o : Oper} {e : Eff} {Q : Exit → Act → World → Prop}
theorem evParts_sound (h : Rel V X Z w0 N ρ ok lt lb a w) (hl : ∀ t x, lt' t = some x → lt t = some x) : ∀ {parts : List (Nat × Operand)} {ps : List (Nat × List C)}, evParts lt' parts = some ps → Parts (CRel (Im V ρ lb) ρ ok w) ps (parts.map fun (i, x) => (i, a.eval x))
 | [], ps, he => by simp [evParts] at he; subst he; exact .nil
 | (i, x) :: rest, ps, he => by
  unfold evParts at he
  cases h1 : ev lt' x with
  | none => simp [h1] at he
  | some av =>
   cases h2 : cellsOfAV av with
   | none => simp [h1, h2] at he
   | some cs =>
    cases h3 : evParts lt' rest with
    | none => simp [h1, h2, h3] at he
    | some r =>
     simp [h1, h2, h3] at he
     subst he
     obtain ⟨vs, k1, k2, k3⟩ := cellsOfAV_sound h2 (ev_sound h hl h1)
     exact .cons k1 k2 (evParts_sound h hl h3)
theorem aBuilt_sound {R : C → Value → Prop} (hC : ∀ (vs : List Value) (cs : List C), vs.mapM cellC = some cs → All2 R cs vs) {t : TypeId} {ps : List (Nat × List C)} {vps : List (Nat × Value)} {cs : List C} (hp : Parts R ps vps) (he : aBuilt P t ps = some cs) : ∃ vs, P.built t vps = some (List.toArray vs) ∧ All2 R cs vs := by
 unfold aBuilt at he
 cases hi : P.info? t with
 | none => simp [hi] at he
 | some it =>
  cases hu : P.underlying t with
  | none => simp [hi, hu] at he
  | some ud =>
   cases hz : it.zero with
   | none => cases ud <;> simp [hi, hu, hz] at he
   | some z =>
    cases ud <;> simp only [hi, hu, hz] at he <;> try (cases he; done)
    case array n el =>
     cases hie : P.info? el with
     | none => simp only [hie] at he; cases he
     | some ie =>
      simp only [hie] at he
      obtain ⟨zs, hm, he⟩ := Option.bind_eq_some_iff.1 he
      obtain ⟨vs, h1, h2⟩ := afill_sound _ hp he (hC _ _ hm)
      exact ⟨vs, by simpa [Program.built, hi, hu, hz, hie] using h1, h2⟩
    case struct fields =>
     cases hf : fields.toList.mapM (fun f => (P.info? f.type).map fun i => (f.offset, i.size)) with
     | none => simp only [hf] at he; cases he
     | some places =>
      simp only [hf] at he
      obtain ⟨zs, hm, he⟩ := Option.bind_eq_some_iff.1 he
      obtain ⟨vs, h1, h2⟩ := afill_sound _ hp he (hC _ _ hm)
      refine ⟨vs, ?_, h2⟩
      unfold Program.built
      simp only [hi, hu, hz, hf]
      simpa using h1
theorem toD_sound (h : Rel V X Z w0 N ρ ok lt lb a w) (hb : ∀ t x, lb' t = some x → lb t = some x) {S' : Nat → Prop} (hs : ∀ b, b < w.heap.size → Im V ρ lb b → S' b) {c : C} {v : Value} {d : D} {ks : List Key} (he : toD lb' c = some (d, ks)) (hS : ∀ q box b, q ∈ ks → lb' q = some box → (ρ q).g = some b → S' b)
    (hv : CRel (Im V ρ lb) ρ ok w c v) : Rd S' w d v := by
 cases c with
 | d d' => simp [toD] at he; obtain ⟨rfl, rfl⟩ := he; exact Rd.mono hv hs
 | zero =>
  simp [toD] at he
  obtain ⟨rfl, rfl⟩ := he
  obtain ⟨A, rfl⟩ := hv
  exact .sl (rows := []) (b := 0) (o := 0) (cv := fun _ _ => undef) (by simp) (by simp) (fun h => absurd rfl h) (by simp) (by simp) (by simp)
 | own q =>
  simp only [toD] at he
  split at he
  ·rename_i sz rows hq
   cases he
   obtain ⟨_, rfl⟩ := hv
   have := (h.bx q _ (hb _ _ hq)).2
   exact Rd.mono this hs
  ·rename_i ty sz rows hq
   cases he
   obtain ⟨_, rfl⟩ := hv
   obtain ⟨h1, h2, h3, h4, h5, h6⟩ := (h.bx q _ (hb _ _ hq)).2
   rw [h1]
   rcases h6 with ⟨_, rfl, h7⟩ | ⟨b, vs, sp, g1, g2, g3, g4, g5⟩
   ·exact .sl (rows := []) (b := 0) (o := 0) (cv := fun _ _ => undef) (by simp) (by simp) (fun h => absurd rfl h) (by simp) (by simp) (by simp)
   ·have hlen := g4.length
    have hget : ∀ (i : Nat) (row : List D) (j : Nat) (d : D), rows[i]? = some row → row[j]? = some d → ∃ u, vs[i * sz + j]? = some u ∧ Rd (Im V ρ lb) w d u := by
     intro i row j d hi hj
     have hjl : j < sz := by
      have := h5 i row hi
      rcases Nat.lt_or_ge j row.length with h | h
      ·omega
      ·rw [List.getElem?_eq_none h] at hj; cases hj
     have := mk_flat h5 hi hjl
     exact g4.get (c := C.d d) (by rw [List.getElem?_map, this, hj]; rfl)
    refine .sl (b := b) (o := 0) (cv := fun i j => (vs[i * sz + j]?).getD undef) h3 h4 (fun _ => ⟨g2, g3.lt, hS q _ b (by simp) hq g1⟩) h5 (fun i row j d hi hj => ?_) (fun i row j d hi hj => ?_)
    ·obtain ⟨u, k1, k2⟩ := hget i row j d hi hj
     have : i * sz + j < vs.length := by
      rcases Nat.lt_or_ge (i * sz + j) vs.length with h | h
      ·exact h
      ·rw [List.getElem?_eq_none h] at k1; cases k1
     rw [g3.cell, Nat.zero_add]
     simp [List.getElem?_append_left this, k1]
    ·obtain ⟨u, k1, k2⟩ := hget i row j d hi hj
     simp only [k1, Option.getD_some]
     exact Rd.mono k2 hs
  ·cases he
 | ptr => simp [toD] at he
 | eptr => simp [toD] at he
 | rptr => simp [toD] at he
 | arr => simp [toD] at he
 | mp => simp [toD] at he
 | fn => simp [toD] at he
 | dead => simp [toD] at he
theorem toDs_sound (h : Rel V X Z w0 N ρ ok lt lb a w) (hb : ∀ t x, lb' t = some x → lb t = some x) {S' : Nat → Prop} (hs : ∀ b, b < w.heap.size → Im V ρ lb b → S' b) : ∀ {cs : List C} {vs : List Value} {ds : List D} {ks : List Key}, toDs lb' cs = some (ds, ks) →
    (∀ q box b, q ∈ ks → lb' q = some box → (ρ q).g = some b → S' b) → All2 (CRel (Im V ρ lb) ρ ok w) cs vs → All2 (CRel S' ρ ok w) (ds.map .d) vs
 | [], vs, ds, ks, he, hS, hA => by simp [toDs] at he; obtain ⟨rfl, rfl⟩ := he; cases hA; exact .nil
 | c :: cs, vs, ds, ks, he, hS, hA => by
  unfold toDs at he
  cases h1 : toD lb' c with
  | none => simp [h1] at he
  | some p =>
   cases h2 : toDs lb' cs with
   | none => simp [h1, h2] at he
   | some r =>
    obtain ⟨d, k1⟩ := p
    obtain ⟨ds', k2⟩ := r
    simp [h1, h2] at he
    obtain ⟨rfl, rfl⟩ := he
    cases hA with
    | cons x y => exact .cons (toD_sound h hb hs h1 (fun q box b hq => hS q box b (by simp [hq])) x) (toDs_sound h hb hs h2 (fun q box b hq => hS q box b (by simp [hq])) y)
theorem toDs_len {lb' : Key → Option Box} : ∀ {cs : List C} {ds : List D} {ks : List Key}, toDs lb' cs = some (ds, ks) → ds.length = cs.length
 | [], ds, ks, he => by simp [toDs] at he; obtain ⟨rfl, rfl⟩ := he; rfl
 | c :: cs, ds, ks, he => by
  unfold toDs at he
  cases h1 : toD lb' c with
  | none => simp [h1] at he
  | some p =>
   cases h2 : toDs lb' cs with
   | none => simp [h1, h2] at he
   | some r =>
    obtain ⟨d, k1⟩ := p
    obtain ⟨ds', k2⟩ := r
    simp [h1, h2] at he
    obtain ⟨rfl, rfl⟩ := he
    simp [toDs_len h2]
end
theorem chunks_flat {α : Type} (sz : Nat) : ∀ (n : Nat) (l : List α), l.length = n * sz → (chunks sz n l).flatten = l
 | 0, l, h => by simp at h; subst h; rfl
 | n + 1, l, h => by
  unfold chunks
  rw [List.flatten_cons, chunks_flat sz n (l.drop sz) (by simp [h, Nat.succ_mul]), List.take_append_drop]
theorem chunks_len {α : Type} (sz : Nat) : ∀ (n : Nat) (l : List α), (chunks sz n l).length = n
 | 0, l => rfl
 | n + 1, l => by simp [chunks, chunks_len sz n]
theorem chunks_row {α : Type} (sz : Nat) : ∀ (n : Nat) (l : List α), l.length = n * sz → ∀ (i : Nat) (row : List α), (chunks sz n l)[i]? = some row → row.length = sz
 | 0, l, h, i, row, hi => by simp [chunks] at hi
 | n + 1, l, h, i, row, hi => by
  unfold chunks at hi
  cases i with
  | zero => simp at hi; subst hi; simp [h, Nat.succ_mul]
  | succ i => exact chunks_row sz n (l.drop sz) (by simp [h, Nat.succ_mul]) i row (by simpa using hi)
end Go.Proofs.YtjpdemikmdfonaaGreatDoor
namespace Go.Proofs.YtjpdemikmdfonaaGreatDoor
open Go Go.RowKit
set_option linter.unusedSimpArgs false
set_option linter.unusedVariables false
section
variable {V X : Nat → Prop} {Z : Key → Hd} {w0 w w' : World} {N : Nat} {ρ : Key → Hd} {ok ok' : Key → Prop} {lt lt' : Nat → Option AV} {lb lb' lb2 : Key → Option Box} {a : Act} {P : Program} {o : Oper} {e : Eff} {Q : Exit → Act → World → Prop}
def Shut (lb lb2 : Key → Option Box) : Prop := ∀ q, lb2 q = lb q ∨ ∃ ty sz rows, lb q = some (.sl ty sz rows) ∧ lb2 q = some (.fz sz rows)
theorem im_shut (hs : Shut lb lb2) {b : Nat} (h : Im V ρ lb b) : Im V ρ lb2 b := by
 refine ⟨h.1, fun q box hq hl => ?_⟩
 rcases hs q with h1 | ⟨ty, sz, rows, h1, h2⟩
 ·rw [h1] at hq; exact h.2 q box hq hl
 ·rw [h2] at hq; cases hq; simp [Box.live] at hl
theorem im_of_shut (h : Rel V X Z w0 N ρ ok lt lb a w) (hs : Shut lb lb2) {q : Key} {ty : TypeId} {sz : Nat} {rows : List (List D)} (h1 : lb q = some (.sl ty sz rows)) (h2 : lb2 q = some (.fz sz rows)) {b : Nat} (hg : (ρ q).g = some b) : Im V ρ lb2 b := by
 refine ⟨fun hv => ?_, fun q' box hq' hl hg' => ?_⟩
 ·have h3 := h.va.lt b hv
  rcases (h.lo q _ b h1 rfl hg).2 with h4 | h4
  ·omega
  ·exact h3.2 h4
 ·have h3 : lb q' = some box := by
    rcases hs q' with h3 | ⟨_, _, _, h3, h4⟩
    ·rw [← h3]; exact hq'
    ·rw [h4] at hq'; cases hq'; simp [Box.live] at hl
  have := h.ap q' box q _ b h3 hl h1 rfl hg' hg
  subst this
  rw [h2] at hq'
  cases hq'
  simp [Box.live] at hl
theorem Rel.shut (h : Rel V X Z w0 N ρ ok lt lb a w) (hs : Shut lb lb2) : Rel V X Z w0 N ρ ok lt lb2 a w := by
 have hm : ∀ b, b < w.heap.size → Im V ρ lb b → Im V ρ lb2 b := fun b _ hi => im_shut hs hi
 have back : ∀ q box, lb2 q = some box → box.live = true → lb q = some box := fun q box hq hl => by
  rcases hs q with h1 | ⟨_, _, _, h1, h2⟩
  ·rw [← h1]; exact hq
  ·rw [h2] at hq; cases hq; simp [Box.live] at hl
 refine ⟨h.size, h.defers, fun t av ht => ⟨(h.tm t av ht).1, (h.tm t av ht).2.imp fun c v hc => hc.keep (Keep.refl _ _) hm (fun _ _ => rfl) (fun _ h => h)⟩, fun q box hq => ?_, fun q b1 q' b2 b e1 l1 e2 l2 => h.ap q b1 q' b2 b (back q b1 e1 l1) l1 (back q' b2 e2 l2) l2, fun q box b hq hl => h.lo q box b (back q box hq hl) hl, h.fr, h.va, h.zz⟩
 rcases hs q with h1 | ⟨ty, sz, rows, h1, h2⟩
 ·rw [h1] at hq
  obtain ⟨k1, k2⟩ := h.bx q box hq
  exact ⟨k1, k2.keep (Keep.refl _ _) hm (fun _ _ => rfl) (fun _ h => h) k1 (fun _ _ _ => rfl)⟩
 ·rw [h2] at hq
  cases hq
  obtain ⟨k1, k2⟩ := h.bx q _ h1
  refine ⟨k1, ?_⟩
  simp only [BoxRel]
  exact toD_sound h (lb' := lb) (fun _ _ h => h) hm (c := .own q) (d := .sl sz rows) (ks := [q]) (by simp [toD, h1]) (fun q' box b hq' hb hg => by
   simp at hq'
   subst hq'
   exact im_of_shut h hs h1 h2 hg) ⟨k1, rfl⟩
theorem shut_lk (cur : Nat) (lb' : Key → Option Box) : ∀ (ks : List Key) (q : Key), lk (shut cur lb' ks) q = none ∨ ∃ ty sz rows, lb' q = some (.sl ty sz rows) ∧ lk (shut cur lb' ks) q = some (some (.fz sz rows))
 | [], q => .inl rfl
 | k :: ks, q => by
  have ih := shut_lk cur lb' ks q
  unfold shut at ih ⊢
  by_cases hc : k.2 == cur
  ·simp only [List.filter_cons, hc, if_true, List.filterMap_cons]
   split
   ·exact ih
   ·rename_i x hx
    split at hx
    ·rename_i ty sz rows hk
     cases hx
     unfold lk
     by_cases hq : q = k
     ·subst hq; rw [if_pos rfl]; exact .inr ⟨ty, sz, rows, hk, rfl⟩
     ·rw [if_neg hq]; exact ih
    ·cases hx
  ·simp only [List.filter_cons, hc]
   exact ih
theorem shut_mem {cur : Nat} {lb' : Key → Option Box} : ∀ {ks : List Key} {q : Key} {ty : TypeId} {sz : Nat} {rows : List (List D)}, q ∈ ks → q.2 = cur → lb' q = some (.sl ty sz rows) → lk (shut cur lb' ks) q = some (some (.fz sz rows))
 | k :: ks, q, ty, sz, rows, hm, hc, hq => by
  by_cases e : q = k
  ·subst e
   unfold shut
   simp only [List.filter_cons, hc, beq_self_eq_true, if_true, List.filterMap_cons, hq]
   unfold lk
   rw [if_pos rfl]
  ·have ih := shut_mem (ks := ks) (by simpa [e] using hm) hc hq
   unfold shut at ih ⊢
   by_cases hc : k.2 == cur
   ·simp only [List.filter_cons, hc, if_true, List.filterMap_cons]
    split
    ·exact ih
    ·unfold lk; rename_i x hx; split at hx
     ·cases hx; rw [if_neg e]; exact ih
     ·cases hx
   ·simp only [List.filter_cons, hc]
    exact ih
theorem shut_Shut (hb : ∀ t x, lb' t = some x → lb t = some x) (cur : Nat) (ks : List Key) : Shut lb (updB lb (shut cur lb' ks)) := by
 intro q
 rcases shut_lk cur lb' ks q with h | ⟨ty, sz, rows, h1, h2⟩
 ·exact .inl (by unfold updB; rw [h])
 ·exact .inr ⟨ty, sz, rows, hb _ _ h1, by unfold updB; rw [h2]⟩
theorem updB_cons (lb : Key → Option Box) (k : Key) (ob : Option Box) (r : List (Key × Option Box)) : updB lb ((k, ob) :: r) = updB (updB lb r) [(k, ob)] := by
 funext q
 rw [updB_one]
 unfold updB
 rw [show lk ((k, ob) :: r) q = if q = k then some ob else lk r q from rfl]
 split <;> rename_i h <;> split at h <;> simp_all
theorem toD_ks {c : C} {d : D} {ks : List Key} (h : toD lb' c = some (d, ks)) : ∀ q ∈ ks, ∃ ty sz rows, lb' q = some (.sl ty sz rows) := by
 cases c <;> simp [toD] at h
 ·obtain ⟨_, rfl⟩ := h; simp
 ·obtain ⟨_, rfl⟩ := h; simp
 ·split at h
  ·cases h; simp
  ·cases h; rename_i hq; intro q hq'; simp at hq'; subst hq'; exact ⟨_, _, _, hq⟩
  ·cases h
theorem toDs_ks : ∀ {cs : List C} {ds : List D} {ks : List Key}, toDs lb' cs = some (ds, ks) → ∀ q ∈ ks, ∃ ty sz rows, lb' q = some (.sl ty sz rows)
 | [], ds, ks, he => by simp [toDs] at he; obtain ⟨rfl, rfl⟩ := he; simp
 | c :: cs, ds, ks, he => by
  unfold toDs at he
  cases h1 : toD lb' c with
  | none => simp [h1] at he
  | some p =>
   cases h2 : toDs lb' cs with
   | none => simp [h1, h2] at he
   | some r =>
    obtain ⟨d, k1⟩ := p
    obtain ⟨ds', k2⟩ := r
    simp [h1, h2] at he
    obtain ⟨rfl, rfl⟩ := he
    intro q hq
    rcases List.mem_append.1 hq with hq | hq
    ·exact toD_ks h1 q hq
    ·exact toDs_ks h2 q hq
theorem needs_cur {cur : Nat} {ks : List Key} (h : ks.filter (·.2 != cur) = []) : ∀ q ∈ ks, q.2 = cur := by
 intro q hq
 have := List.filter_eq_nil_iff.1 h q hq
 simpa using this
theorem toDs_shut (h : Rel V X Z w0 N ρ ok lt lb a w) (hb : ∀ t x, lb' t = some x → lb t = some x) {cur : Nat} {cs : List C} {vs : List Value} {ds : List D} {ks : List Key} (he : toDs lb' cs = some (ds, ks)) (hn : ks.filter (·.2 != cur) = []) (hA : All2 (CRel (Im V ρ lb) ρ ok w) cs vs) :
    All2 (CRel (Im V ρ (updB lb (Go.Proofs.YtjpdemikmdfonaaGreatDoor.shut cur lb' ks))) ρ ok w) (ds.map .d) vs := by
 have hs := shut_Shut (lb := lb) hb cur ks
 refine toDs_sound h hb (fun b _ hi => im_shut hs hi) he (fun q box b hq hbx hg => ?_) hA
 obtain ⟨ty, sz, rows, h1⟩ := toDs_ks he q hq
 exact im_of_shut h hs (hb _ _ h1) (by unfold updB; rw [shut_mem hq (needs_cur hn q hq) h1]) hg
end
end Go.Proofs.YtjpdemikmdfonaaGreatDoor
namespace Go.Proofs.YtjpdemikmdfonaaGreatDoor
open Go Go.RowKit
set_option linter.unusedSimpArgs false
set_option linter.unusedVariables false
theorem zeros_flat (z : Array Value) (n : Nat) (hz : 0 < z.size) : ((Array.range (n * z.size)).map (z[· % z.size]!)).toList = (List.replicate n z.toList).flatten := by
 apply List.ext_getElem?
 intro i
 by_cases hi : i < n * z.size
 ·have h1 : i / z.size < n := (Nat.div_lt_iff_lt_mul hz).2 hi
  have h2 : i % z.size < z.size := Nat.mod_lt _ hz
  have h3 := mk_flat (sz := z.size) (rows := List.replicate n z.toList) (fun k row hk => by
   have := List.mem_of_getElem? hk
   rw [List.eq_of_mem_replicate this]
   simp) (i := i / z.size) (j := i % z.size) (row := z.toList) (by rw [List.getElem?_replicate]; simp [h1]) h2
  rw [show i / z.size * z.size + i % z.size = i from by rw [Nat.mul_comm]; exact Nat.div_add_mod _ _] at h3
  rw [h3]
  simp [Array.getElem?_range, hi, h2, getElem!_pos]
 ·have h1 : (List.replicate n z.toList).flatten.length = n * z.size := by simp
  rw [List.getElem?_eq_none (by simp; omega), List.getElem?_eq_none (by omega)]
section
variable {V X : Nat → Prop} {Z : Key → Hd} {w0 w w' : World} {N : Nat} {ρ : Key → Hd} {ok ok' : Key → Prop} {lt lt' : Nat → Option AV} {lb lb' lb2 : Key → Option Box} {a : Act} {P : Program} {o : Oper} {e : Eff} {Q : Exit → Act → World → Prop}
theorem Rel.newSl (h : Rel V X Z w0 N ρ ok lt lb a w) {k : Key} (hk : ¬ ok k) (hk' : ok' k) (ho : ∀ q : Key, ok q → ok' q) (el : TypeId) (sz : Nat) {rows : List (List D)} {vs : List Value} (hr : ∀ (i : Nat) (row : List D), rows[i]? = some row → row.length = sz) (hb : rows.length ≤ 4611686018427387904)
    (hA : All2 (CRel (Im V ρ lb) ρ ok w) (rows.flatten.map .d) vs) (d : Option Nat) (hd : ∀ k, d = some k → k < N) :
    ∃ ρ', Rel V X Z w0 N ρ' ok' (updT lt d (.one false [.own k])) (updB lb [(k, some (.sl el sz rows))]) (a.put d (.slice (some ⟨w.heap.size, 0, none⟩) rows.length rows.length)) (w.alloc (.cells vs.toArray el)) := by
 refine ⟨updR ρ k ⟨some ⟨w.heap.size, 0, none⟩, some w.heap.size, rows.length, rows.length, sz⟩, h.new d _ _ hd k hk _ _ (fun b hb => by cases hb; simp) hk' ho (Keep.alloc _ _ _) (one1 ⟨hk', by rw [updR_same]⟩) ?_⟩
 simp only [BoxRel]
 rw [updR_same]
 refine ⟨rfl, rfl, Nat.le_refl _, hb, hr, .inr ⟨w.heap.size, vs, [], rfl, rfl, by rw [List.append_nil]; exact Blk.new _ _ _, ?_, by simp⟩⟩
 exact hA.imp fun c v _ hc => hc.keep (Keep.alloc _ _ _) (im_new h hk (fun b hb => by cases hb; exact Nat.le_refl _)) (updR_old hk _) ho
theorem Rel.newCa (h : Rel V X Z w0 N ρ ok lt lb a w) {k : Key} (hk : ¬ ok k) (hk' : ok' k) (ho : ∀ q : Key, ok q → ok' q) (el : TypeId) (sz : Nat) {rows : List (List C)} {vs : List Value} (hr : ∀ (i : Nat) (row : List C), rows[i]? = some row → row.length = sz) (hb : rows.length ≤ 4611686018427387904)
    (hA : All2 (CRel (Im V ρ lb) ρ ok w) rows.flatten vs) (d : Option Nat) (hd : ∀ k, d = some k → k < N) :
    ∃ ρ', Rel V X Z w0 N ρ' ok' (updT lt d (.one false [.own k])) (updB lb [(k, some (.ca el sz rows))]) (a.put d (.slice (some ⟨w.heap.size, 0, none⟩) rows.length rows.length)) (w.alloc (.cells vs.toArray el)) := by
 refine ⟨updR ρ k ⟨some ⟨w.heap.size, 0, none⟩, some w.heap.size, rows.length, rows.length, sz⟩, h.new d _ _ hd k hk _ _ (fun b hb => by cases hb; simp) hk' ho (Keep.alloc _ _ _) (one1 ⟨hk', by rw [updR_same]⟩) ?_⟩
 simp only [BoxRel]
 rw [updR_same]
 refine ⟨rfl, rfl, Nat.le_refl _, hb, hr, .inr ⟨w.heap.size, vs, [], rfl, rfl, by rw [List.append_nil]; exact Blk.new _ _ _, ?_, by simp⟩⟩
 exact hA.imp fun c v _ hc => hc.keep (Keep.alloc _ _ _) (im_new h hk (fun b hb => by cases hb; exact Nat.le_refl _)) (updR_old hk _) ho
theorem All2.rep {R : C → Value → Prop} {zs : List C} {us : List Value} (h : All2 R zs us) : ∀ n, All2 R (List.replicate n zs).flatten (List.replicate n us).flatten
 | 0 => .nil
 | n + 1 => by rw [List.replicate_succ, List.replicate_succ, List.flatten_cons, List.flatten_cons]; exact h.append (All2.rep h n)
theorem effBuildSlice_sound (h : Rel V X Z w0 N ρ ok lt lb a w) (ho : ∀ q : Key, ok q → ok' q) (hd : ∀ k, o.dst = some k → k < N) (hl : ∀ t x, lt' t = some x → lt t = some x) (hb : ∀ t x, lb' t = some x → lb t = some x) {cur : Nat} {key : Nat → Key} (hk : ¬ ok (key 0)) (hk' : ok' (key 0))
    {t : TypeId} {len : Nat} {parts : Array (Nat × Operand)} (hop : o.op = .buildSlice t len parts) (he : effBuildSlice P cur key t len parts.toList lt' lb' = some e) (hn : e.needs = []) : o.wp P a w (Aft V X Z w0 N ok' lt lb o.dst e) Q := by
 unfold effBuildSlice at he
 split at he
 ·rename_i el hu
  split at he
  ·rename_i ie hie
   split at he
   ·rename_i z hz
    split at he
    ·rename_i hc
     split at he
     ·rename_i zs ps hm hp
      split at he
      ·rename_i cs hf
       have hzs : All2 (CRel (Im V ρ lb) ρ ok w) zs z.cells.toList := cellCs_sound hm
       have hpr := evParts_sound h hl hp
       obtain ⟨vs, h1, h2⟩ := afill_sound _ hpr hf (hzs.rep len)
       have hclen : cs.length = len * ie.size := by
        rw [h2.length]
        have h3 : ∀ {place : Nat → Option (Nat × Nat)} {vps : List (Nat × Value)} {c1 c2 : Array Value}, Instr.fill place c1 vps = some c2 → c2.size = c1.size := by
         intro place vps
         induction vps with
         | nil => intro c1 c2 hh; simp [Instr.fill] at hh; rw [hh]
         | cons p r ih =>
          intro c1 c2 hh
          obtain ⟨i, v⟩ := p
          unfold Instr.fill at hh
          split at hh
          ·cases hh
          ·split at hh
           ·cases hh
           ·rw [ih hh]
            have : ∀ (l : List (Value × Nat)) (c : Array Value) (off : Nat), (l.foldl (fun (cs : Array Value) (x : Value × Nat) => cs.setIfInBounds (off + x.2) x.1) c).size = c.size := by
             intro l
             induction l with
             | nil => intro c off; rfl
             | cons y l ih2 => intro c off; rw [List.foldl_cons, ih2]; simp
            rename_i off _ _ _
            have h4 := this v.cells.zipIdx.toList c1 off
            rw [← h4, ← Array.foldl_toList]
        have := h3 h1
        simp [hc.2.1] at this
        simpa using this
       have hrun : (execOp a.eval o).run P w = .ok (.value (.slice (some ⟨w.heap.size, 0, none⟩) len len)) (w.alloc (.cells vs.toArray el)) := by
        have hfill : Instr.fill (fun i => some (i * ie.size, ie.size)) ((Array.range (len * ie.size)).map (z.cells[· % z.cells.size]!)) (parts.map fun (i, x) => (i, a.eval x)).toList = some vs.toArray := by
         have := congrArg List.toArray (zeros_flat z.cells len (by omega))
         rw [Array.toArray_toList, hc.2.1] at this
         rw [hc.2.1, this, Array.toList_map]
         exact h1
        by_cases h0 : len * ie.size = 0
        ·have hl0 : len = 0 := by rcases Nat.mul_eq_zero.1 h0 with h | h <;> omega
         subst hl0
         have e4 : ((Array.range (0 * ie.size)).map (z.cells[· % z.cells.size]!)) = #[] := by apply Array.ext <;> simp
         rw [e4, Array.toList_map] at hfill
         have e5 : ∀ f : Nat → Value, Array.map f (Array.range 0) = #[] := fun f => by apply Array.ext <;> simp
         simp [execOp, hop, Instr.buildSlice, run_underlying hu, sizeOf, typeInfo, hie, newRow]
         simp only [e5]
         simp at hfill
         simp [hfill, newObj, Sem.run]
        ·have := run_buildSlice (P := P) w t el len (parts.map fun (i, x) => (i, a.eval x)) vs.toArray ie z hu hie hz (by omega) h0 hfill
         simp [execOp, hop, this]
       split at he
       ·rename_i ds ks hds
        cases he
        have hA := toDs_shut h hb hds hn h2
        have hR := h.shut (shut_Shut (lb := lb) hb cur ks)
        have hlen : ds.length = len * ie.size := by rw [toDs_len hds, hclen]
        have e1 : updB lb ((key 0, some (.sl el ie.size (chunks ie.size len ds))) :: shut cur lb' ks) = updB (updB lb (shut cur lb' ks)) [(key 0, some (.sl el ie.size (chunks ie.size len ds)))] := updB_cons _ _ _ _
        obtain ⟨ρ', hfin⟩ := hR.newSl (el := el) (sz := ie.size) hk hk' ho (chunks_row ie.size len ds hlen) (by rw [chunks_len]; have := Nat.le_mul_of_pos_right len hc.2.2; omega) (by rw [chunks_flat ie.size len ds hlen]; exact hA) o.dst hd
        rw [chunks_len] at hfin
        exact wp_val (v := .slice (some ⟨w.heap.size, 0, none⟩) len len) (w' := w.alloc (.cells vs.toArray el)) hrun ⟨ρ', by rw [e1]; exact hfin⟩
       ·cases he
        obtain ⟨ρ', hfin⟩ := h.newCa (el := el) (sz := ie.size) hk hk' ho (chunks_row ie.size len cs hclen) (by rw [chunks_len]; have := Nat.le_mul_of_pos_right len hc.2.2; omega) (by rw [chunks_flat ie.size len cs hclen]; exact h2) o.dst hd
        rw [chunks_len] at hfin
        exact wp_val (v := .slice (some ⟨w.heap.size, 0, none⟩) len len) (w' := w.alloc (.cells vs.toArray el)) hrun ⟨ρ', hfin⟩
      ·cases he
     ·cases he
    ·cases he
   ·cases he
  ·cases he
 ·cases he
theorem wrap_nat {n : Int} (h0 : 0 ≤ n) (h1 : n ≤ 4611686018427387904) : IntKind.i64.wrap n = n := by
 exact IntWalk.i64_in n ⟨by omega, by omega⟩
theorem Rel.newSlCap (h : Rel V X Z w0 N ρ ok lt lb a w) {k : Key} (hk : ¬ ok k) (hk' : ok' k) (ho : ∀ q : Key, ok q → ok' q) (el : TypeId) (sz cap : Nat) {rows : List (List D)} {vs sp : List Value} (hr : ∀ (i : Nat) (row : List D), rows[i]? = some row → row.length = sz) (hb : rows.length ≤ 4611686018427387904) (hcap : rows.length ≤ cap) (hsp : sp.length = (cap - rows.length) * sz)
    (hA : All2 (CRel (Im V ρ lb) ρ ok w) (rows.flatten.map .d) vs) (d : Option Nat) (hd : ∀ k, d = some k → k < N) :
    ∃ ρ', Rel V X Z w0 N ρ' ok' (updT lt d (.one false [.own k])) (updB lb [(k, some (.sl el sz rows))]) (a.put d (.slice (some ⟨w.heap.size, 0, none⟩) rows.length cap)) (w.alloc (.cells (vs ++ sp).toArray el)) := by
 refine ⟨updR ρ k ⟨some ⟨w.heap.size, 0, none⟩, some w.heap.size, rows.length, cap, sz⟩, h.new d _ _ hd k hk _ _ (fun b hb => by cases hb; simp) hk' ho (Keep.alloc _ _ _) (one1 ⟨hk', by rw [updR_same]⟩) ?_⟩
 simp only [BoxRel]
 rw [updR_same]
 refine ⟨rfl, rfl, hcap, hb, hr, .inr ⟨w.heap.size, vs, sp, rfl, rfl, Blk.new _ _ _, ?_, hsp⟩⟩
 exact hA.imp fun c v _ hc => hc.keep (Keep.alloc _ _ _) (im_new h hk (fun b hb => by cases hb; exact Nat.le_refl _)) (updR_old hk _) ho
theorem Rel.newArr (h : Rel V X Z w0 N ρ ok lt lb a w) {k : Key} (hk : ¬ ok k) (hk' : ok' k) (ho : ∀ q : Key, ok q → ok' q) (ty : TypeId) (n z : Nat) {cs : List C} {vs : List Value} (hA : All2 (CRel (Im V ρ lb) ρ ok w) cs vs) (d : Option Nat) (hd : ∀ k, d = some k → k < N) :
    ∃ ρ', Rel V X Z w0 N ρ' ok' (updT lt d (.one false [.arr k n z])) (updB lb [(k, some (.st ty cs))]) (a.put d (.slice (some ⟨w.heap.size, 0, none⟩) n n)) (w.alloc (.cells vs.toArray ty)) := by
 refine ⟨updR ρ k ⟨none, some w.heap.size, 0, 0, 0⟩, h.new d _ _ hd k hk _ _ (fun b hb => by cases hb; simp) hk' ho (Keep.alloc _ _ _) (one1 ⟨hk', w.heap.size, by rw [updR_same], n, Nat.le_refl _, rfl⟩) ⟨w.heap.size, vs, by rw [updR_same], Blk.new _ _ _, ?_⟩⟩
 exact hA.imp fun c v _ hc => hc.keep (Keep.alloc _ _ _) (im_new h hk (fun b hb => by cases hb; exact Nat.le_refl _)) (updR_old hk _) ho
theorem repl_split {α : Type} (l : List α) {n m : Nat} (h : n ≤ m) : (List.replicate m l).flatten = (List.replicate n l).flatten ++ (List.replicate (m - n) l).flatten := by
 rw [← List.flatten_append, List.replicate_append_replicate]
 congr 2
 omega
theorem repl_len {α : Type} (l : List α) (n : Nat) : (List.replicate n l).flatten.length = n * l.length := by
 induction n with
 | zero => simp
 | succ n ih => rw [List.replicate_succ, List.flatten_cons, List.length_append, ih, Nat.succ_mul]; omega
theorem effMakeSlice_sound (h : Rel V X Z w0 N ρ ok lt lb a w) (ho : ∀ q : Key, ok q → ok' q) (hd : ∀ k, o.dst = some k → k < N) (hl : ∀ t x, lt' t = some x → lt t = some x) {key : Nat → Key} (hk : ¬ ok (key 0)) (hk' : ok' (key 0))
    {t : TypeId} {l c : Operand} (hop : o.op = .makeSlice t l c) (he : effMakeSlice P key t l c lt' = some e) : o.wp P a w (Aft V X Z w0 N ok' lt lb o.dst e) Q := by
 unfold effMakeSlice at he
 split at he
 ·rename_i el n m hu hn hm
  split at he
  ·rename_i ie hie
   split at he
   ·rename_i z hz
    split at he
    ·rename_i hc
     obtain ⟨cnm, c0, c1, c2, c3, c4⟩ := hc
     obtain ⟨k1, hl1⟩ := intV_sound h hl hn
     obtain ⟨k2, hl2⟩ := intV_sound h hl hm
     have hrun : (execOp a.eval o).run P w = .ok (.value (.slice (some ⟨w.heap.size, 0, none⟩) n.toNat m.toNat)) (w.alloc (.cells (List.replicate m.toNat z.cells.toList).flatten.toArray el)) := by
      have hw := wrap_nat (n := n) c0 (by omega)
      have hw2 := wrap_nat (n := m) (by omega) c2
      have hz2 := zeros_flat z.cells m.toNat (by omega)
      have hz3 := congrArg List.toArray hz2
      rw [Array.toArray_toList] at hz3
      rw [c3] at hz3
      have hb0 : ¬ (n < 0) := by omega
      have hb1 : ¬ (m < 0) := by omega
      have hb3 : ¬ (m < n) := by omega
      have hb2 : ¬ ((281474976710656 : Int) < (ie.bytes : Int) * m) := by rw [Int.mul_comm]; omega
      have ask : ∀ b, (askRoom b).run P w = .ok () w := fun b => by unfold askRoom; split <;> simp [mark, Sem.run]
      by_cases h0 : m.toNat * ie.size = 0
      ·have hn0 : m.toNat = 0 := by rcases Nat.mul_eq_zero.1 h0 with h | h <;> omega
       have e5 : ∀ f : Nat → Value, Array.map f (Array.range 0) = #[] := fun f => by apply Array.ext <;> simp
       simp [execOp, hop, Instr.makeSlice, run_underlying hu, asInt, asIntOf, hl1, hl2, typeInfo, sizeOf, hie, hw, hw2, hb0, hb1, hb2, hb3, ask, newRow, h0, hn0]
       simp only [e5]
      ·simp [execOp, hop, Instr.makeSlice, run_underlying hu, asInt, asIntOf, hl1, hl2, typeInfo, sizeOf, hie, hw, hw2, hb0, hb1, hb2, hb3, ask, newRow, h0, zeroValue, hz]
       rw [c3, hz3]
     split at he
     ·split at he
      ·rename_i zs hzs
       split at he
       ·rename_i hnm
        cases he
        obtain ⟨_, rfl⟩ := hnm
        have hA0 : All2 (CRel (Im V ρ lb) ρ ok w) zs z.cells.toList := cellCs_sound hzs
        obtain ⟨ρ', hfin⟩ := h.newArr hk hk' ho el n.toNat ie.size (hA0.rep n.toNat) o.dst hd
        exact wp_val hrun ⟨ρ', hfin⟩
       ·cases he
      ·cases he
     ·split at he
      ·rename_i row ks hrow
       cases he
       obtain ⟨zs, hzs, hds⟩ := Option.bind_eq_some_iff.1 hrow
       have hA0 : All2 (CRel (Im V ρ lb) ρ ok w) zs z.cells.toList := cellCs_sound hzs
       have hA : All2 (CRel (Im V ρ lb) ρ ok w) (row.map .d) z.cells.toList := toDs_sound h (lb' := fun _ => none) (fun _ _ h => by cases h) (fun b _ hi => hi) hds (fun q box b _ hq => by cases hq) hA0
       have hrl : row.length = ie.size := by rw [toDs_len hds, hA0.length]; simp [c3]
       have hzl : z.cells.toList.length = ie.size := by simpa using c3
       rw [repl_split _ (show n.toNat ≤ m.toNat by omega)] at hrun
       obtain ⟨ρ', hfin⟩ := h.newSlCap (el := el) (sz := ie.size) (cap := m.toNat) (rows := List.replicate n.toNat row) (vs := (List.replicate n.toNat z.cells.toList).flatten) (sp := (List.replicate (m.toNat - n.toNat) z.cells.toList).flatten) hk hk' ho (fun i r hi => by rw [List.eq_of_mem_replicate (List.mem_of_getElem? hi)]; exact hrl) (by simp; omega) (by simp; omega) (by rw [repl_len, hzl, List.length_replicate])
        (by
         have : (List.replicate n.toNat row).flatten.map C.d = (List.replicate n.toNat (row.map C.d)).flatten := by rw [List.map_flatten, List.map_replicate]
         rw [this]
         exact hA.rep _) o.dst hd
       rw [List.length_replicate] at hfin
       exact wp_val hrun ⟨ρ', hfin⟩
      ·cases he
    ·cases he
   ·cases he
  ·cases he
 ·cases he
theorem effSlice_sound (h : Rel V X Z w0 N ρ ok lt lb a w) (ho : ∀ q : Key, ok q → ok' q) (hd : ∀ k, o.dst = some k → k < N) (hl : ∀ t x, lt' t = some x → lt t = some x)
    {t : TypeId} {x : Operand} {lo hi mx : Option Operand} (hop : o.op = .slice t x lo hi mx) (he : effSlice P t x lo hi mx o lt' lb' = some e) : o.wp P a w (Aft V X Z w0 N ok' lt lb o.dst e) Q := by
 unfold effSlice at he
 split at he
 ·rename_i el hu
  split at he
  ·rename_i _ sz rows hx
   split at he
   ·rename_i l hh hlo hhi
    split at he
    ·rename_i hc
     cases he
     obtain ⟨c1, c2, c3, c4⟩ := hc
     cases h1 : ev lt' x with
     | none => simp [h1] at hx
     | some av =>
      simp [h1] at hx
      have hv := slot1_sound hx (ev_sound h hl h1)
      generalize hvx : a.eval x = vx at hv
      cases hv with
      | @sl _ _ A c b o' cv hcc hbb hA hrl hcell hrd =>
       have hlow : ∃ L, (lo.map a.eval = some (.int L l)) ∨ (lo = none ∧ l = 0) := by
        cases lo with
        | none => simp [bound] at hlo; exact ⟨.i64, .inr ⟨rfl, hlo.symm⟩⟩
        | some lx => obtain ⟨k, hk⟩ := intV_sound h hl hlo; exact ⟨k, .inl (by simp [hk])⟩
       have hhig : ∃ L, (hi.map a.eval = some (.int L hh)) ∨ (hi = none ∧ hh = rows.length) := by
        cases hi with
        | none => simp [bound] at hhi; exact ⟨.i64, .inr ⟨rfl, hhi.symm⟩⟩
        | some hx => obtain ⟨k, hk⟩ := intV_sound h hl hhi; exact ⟨k, .inl (by simp [hk])⟩
       obtain ⟨Lk, hlow⟩ := hlow
       obtain ⟨Hk, hhig⟩ := hhig
       have hb1 : (Instr.sliceBounds true rows.length c (lo.map a.eval) (hi.map a.eval) none).run P w = .ok (l.toNat, hh.toNat, c) w := by
        have e1 : 0 ≤ hh ∧ hh ≤ (c : Int) := ⟨by omega, by omega⟩
        have e2 : 0 ≤ l ∧ l ≤ (hh.toNat : Int) := ⟨by omega, by omega⟩
        rcases hlow with g1 | ⟨g1, g2⟩ <;> rcases hhig with g3 | ⟨g3, g4⟩
        ·simp [Instr.sliceBounds, g1, g3, Instr.sliceBound, asIntOf, e1, e2]
         intro hcon
         exact absurd hcon (by omega)
        ·subst g3; subst g4
         have e2' : 0 ≤ l ∧ l ≤ (rows.length : Int) := ⟨by omega, by omega⟩
         simp [Instr.sliceBounds, g1, Instr.sliceBound, asIntOf, e2']
        ·subst g1; subst g2
         simp [Instr.sliceBounds, g3, Instr.sliceBound, asIntOf, e1]
        ·subst g1; subst g2; subst g3; subst g4
         simp [Instr.sliceBounds]
       refine sound_pure h ho hd rfl (v := .slice (if c = l.toNat then A else A.map (·.add (l.toNat * sz))) (hh.toNat - l.toNat) (c - l.toNat)) ?_ (one1 ?_)
       ·have hun : (match (TypeDesc.slice el : TypeDesc) with | .array n elem => true | _ => false) = false := rfl
        simp [execOp, hop, Instr.sliceAt, Instr.slice, run_underlying hu, hvx, hb1, size_run c1]
       ·have hlen : ((rows.drop l.toNat).take (hh.toNat - l.toNat)).length = hh.toNat - l.toNat := by simp; omega
        have hget : ∀ (i : Nat) (row : List D), ((rows.drop l.toNat).take (hh.toNat - l.toNat))[i]? = some row → rows[l.toNat + i]? = some row := by
         intro i row hi
         rw [List.getElem?_take] at hi
         split at hi
         ·rw [List.getElem?_drop] at hi; exact hi
         ·cases hi
        suffices key : Rd (Im V ρ lb) w (.sl sz ((rows.drop l.toNat).take (hh.toNat - l.toNat))) (.slice (if c = l.toNat then A else A.map (·.add (l.toNat * sz))) ((rows.drop l.toNat).take (hh.toNat - l.toNat)).length (c - l.toNat)) by
         rw [hlen] at key
         exact key
        refine .sl (c := c - l.toNat) (b := b) (o := o' + l.toNat * sz) (cv := fun i j => cv (l.toNat + i) j) (by rw [hlen]; omega) (by rw [hlen]; omega) (fun hne => ?_) (fun i row hi => hrl _ _ (hget i row hi)) (fun i row j d hi hj => ?_) (fun i row j d hi hj => hrd _ _ _ _ (hget i row hi) hj)
        ·have hne' : rows ≠ [] := fun e => hne (by simp [e])
         obtain ⟨g1, g2, g3⟩ := hA hne'
         have hlt : l.toNat < rows.length := by
          rcases Nat.lt_or_ge l.toNat rows.length with g | g
          ·exact g
          ·exact absurd (by rw [List.drop_eq_nil_of_le g]; simp) hne
         rw [if_neg (by omega), g1]
         exact ⟨by simp [Addr.add_lit], g2, g3⟩
        ·have := hcell _ _ _ _ (hget i row hi) hj
         rw [show o' + l.toNat * sz + (i * sz + j) = o' + ((l.toNat + i) * sz + j) by rw [Nat.add_mul]; omega]
         exact this
    ·cases he
   ·cases he
  ·cases he
 ·obtain ⟨h1, v, h2, h3⟩ := effPlain_sound h hl he
  exact sound_pure h ho hd h1 h2 h3
 ·rename_i n el hu
  split at he
  ·rename_i q hx
   split at he
   ·rename_i hh sz hhi hsz
    split at he
    ·rename_i hc
     cases he
     obtain ⟨av, hx1, hx2⟩ := Option.bind_eq_some_iff.1 hx
     obtain ⟨hok, b, hg, hv⟩ := slot1_sound hx2 (ev_sound h hl hx1)
     have hb1 : (Instr.sliceBounds false n n none (hi.map a.eval) none).run P w = .ok (0, hh.toNat, n) w := by
      cases hi with
      | none =>
       have e0 : hh = (n : Int) := by simp [bound] at hhi; exact hhi.symm
       subst e0
       simp [Instr.sliceBounds]
      | some hx =>
       obtain ⟨k, hk⟩ := intV_sound h hl hhi
       simp [Instr.sliceBounds, hk, Instr.sliceBound, asIntOf, hc]
     refine sound_pure h ho hd rfl (v := .slice (some ⟨b, 0, none⟩) hh.toNat n) ?_ (one1 ⟨hok, b, hg, n, by omega, rfl⟩)
     simp [execOp, hop, Instr.sliceAt, Instr.sureAddr, run_underlying hu, hv, hb1, size_run hsz, Addr.add_lit]
    ·cases he
   ·cases he
  ·cases he
 ·cases he
end
end Go.Proofs.YtjpdemikmdfonaaGreatDoor

