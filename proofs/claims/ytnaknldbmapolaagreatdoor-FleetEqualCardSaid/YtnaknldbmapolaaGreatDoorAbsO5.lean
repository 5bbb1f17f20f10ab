/-
  The abstract machine is right: stores and append.
-/
import Derived.Test.YtnaknldbmapolaaGreatDoorAbsO4
namespace Go.Proofs.YtnaknldbmapolaaGreatDoor
open Go Go.RowKit
set_option linter.unusedSimpArgs false
set_option linter.unusedVariables false
theorem keep_puts' (g : Nat) : ∀ (vs : List Value) (o : Nat) (w : World), Keep (fun k => k ≠ g) w (w.setCells g o vs)
  | [], o, w => Keep.refl _ _
  | v :: vs, o, w => by
    have e : w.setCells g o (v :: vs) = (w.setCell ⟨g, o, none⟩ v).setCells g (o + 1) vs := by simp [World.setCells]
    rw [e]
    exact (Keep.setCell w (fun h => h rfl) v).trans (keep_puts' g vs (o + 1) _)
theorem All2.ones {S : Nat → Prop} {ρ : Key → Hd} {ok : Key → Prop} {w : World} {cs : List C} {vs : List Value} (h : All2 (CRel S ρ ok w) cs vs) : ∀ v ∈ vs, v.oneCell' = true := by
  induction h with
  | nil => intro v hv; cases hv
  | cons h t ih =>
    intro v hv
    rcases List.mem_cons.1 hv with rfl | hv
    · exact h.one
    · exact ih v hv
/-- A store into a block that is known whole. -/
theorem storeVar_run {P : Program} {w : World} {t : TypeId} {v : Value} {us vs : List Value} {b off : Nat} {ty : TypeId} (hv : v.cells = us.toArray) (hs : sizeT P t = some us.length) (hB : Blk w b ty vs.toArray) (hfit : off + us.length ≤ vs.length) (h1 : ∀ u ∈ us, u.oneCell' = true) :
    (storeVar t ⟨b, off, none⟩ v).run P w = .ok () (w.setCells b off us) ∧ Blk (w.setCells b off us) b ty (vs.take off ++ (us ++ vs.drop (off + us.length))).toArray := by
  constructor
  · have := run_storeCells_cells (P := P) b off us 0 w (fun j hj => by rw [hB.cell]; simp; omega) (fun j hj => hB.frozen _) h1
    simp only [Nat.add_zero] at this
    simp [storeVar, Sem.run_bind, size_run hs, hv, this]
  · have := blk_puts b ty us w (vs.take off) (vs.drop off) (by rw [List.take_append_drop]; exact hB) (by simp; omega)
    rw [List.length_take, Nat.min_eq_left (by omega), List.drop_drop] at this
    exact this
section
variable {V X : Nat → Prop} {Z : Key → Option Nat} {w0 w w' : World} {N : Nat} {ρ : Key → Hd} {ok ok' : Key → Prop} {lt lt' : Nat → Option AV} {lb lb' lb2 : Key → Option Box} {a : Act} {P : Program} {o : Oper} {e : Eff} {Q : Exit → Act → World → Prop}
theorem im_set {q : Key} {box0 box1 : Box} (hq : lb q = some box0) (l0 : box0.live = true) (l1 : box1.live = true) : Im V ρ (updB lb [(q, some box1)]) = Im V ρ lb := by
  funext b
  refine propext ⟨fun h => ⟨h.1, fun q' box hq' hl => ?_⟩, fun h => ⟨h.1, fun q' box hq' hl => ?_⟩⟩
  · by_cases e : q' = q
    · subst e; exact h.2 q' box1 (by rw [updB_one, if_pos rfl]) l1
    · exact h.2 q' box (by rw [updB_one, if_neg e]; exact hq') hl
  · rw [updB_one] at hq'
    by_cases e : q' = q
    · subst e; exact h.2 q' box0 hq l0
    · rw [if_neg e] at hq'; exact h.2 q' box hq' hl
theorem Rel.set (h : Rel V X Z w0 N ρ ok lt lb a w) (ho : ∀ q : Key, ok q → ok' q) {q : Key} {box0 box1 : Box} (hq : lb q = some box0) (l0 : box0.live = true) (l1 : box1.live = true) {b : Nat} (hg : (ρ q).g = some b) (hw : Keep (fun k => k ≠ b) w w')
    (hB : BoxRel (Im V ρ lb) ρ ok' w' q box1) (d : Option Nat) (hd : ∀ k, d = some k → k < N) : Rel V X Z w0 N ρ ok' (updT lt d .un) (updB lb [(q, some box1)]) (a.put d undef) w' := by
  have hi := im_set (V := V) (ρ := ρ) (lb := lb) hq l0 l1
  have back : ∀ q' box, updB lb [(q, some box1)] q' = some box → box.live = true → ∃ box', lb q' = some box' ∧ box'.live = true := fun q' box hq' hl => by
    rw [updB_one] at hq'
    by_cases e : q' = q
    · subst e; exact ⟨box0, hq, l0⟩
    · rw [if_neg e] at hq'; exact ⟨box, hq', hl⟩
  refine h.step d .un undef hd ?_ ?_ (fun _ _ => rfl) ho rfl (fun q' box hq' => ?_) (fun q1 b1 q2 b2 bb e1 l1 e2 l2 g1 g2 => ?_) (fun q' box bb hq' hl hgb => ?_) ?_
  · rw [hi]; exact hw.mono fun k _ hk hkb => hk.2 q box0 hq l0 (by rw [hg, hkb])
  · rw [hi]; exact fun _ _ h => h
  · rw [updB_one] at hq'
    by_cases e : q' = q
    · subst e
      rw [if_pos rfl] at hq'
      cases hq'
      exact .inr ⟨ho _ (h.bx _ _ hq).1, by rw [hi]; exact hB⟩
    · rw [if_neg e] at hq'
      refine .inl ⟨hq', fun hl bb hgb => hw.block bb (h.lo q' box bb hq' hl hgb).1 (fun ebb => e ?_)⟩
      subst ebb
      exact h.ap q' box q box0 bb hq' hl hq l0 hgb hg
  · obtain ⟨x1, k1, k2⟩ := back q1 b1 e1 l1
    obtain ⟨x2, k3, k4⟩ := back q2 b2 e2 l2
    exact h.ap q1 x1 q2 x2 bb k1 k2 k3 k4 g1 g2
  · obtain ⟨x1, k1, k2⟩ := back q' box hq' hl
    have := h.lo q' x1 bb k1 k2 hgb
    exact ⟨Nat.lt_of_lt_of_le this.1 hw.size, this.2⟩
  · refine Keep.out h (hw.mono fun k _ hk hkb => hk q box0 hq l0 (by rw [hg, hkb]))
theorem flat_set {α : Type} {sz : Nat} : ∀ {rows : List (List α)}, (∀ (i : Nat) (row : List α), rows[i]? = some row → row.length = sz) → ∀ {j : Nat} {row row' : List α}, rows[j]? = some row → row'.length = sz → (rows.set j row').flatten = rows.flatten.take (j * sz) ++ (row' ++ rows.flatten.drop (j * sz + sz))
  | [], _, j, row, row', h, _ => by simp at h
  | r :: rows, hl, j, row, row', h, hr => by
    have h0 := hl 0 r (by simp)
    cases j with
    | zero => simp [← h0]
    | succ j =>
      rw [List.set_cons_succ, List.flatten_cons, List.flatten_cons, flat_set (fun k row hk => hl (k + 1) row (by simpa using hk)) (by simpa using h) hr, Nat.succ_mul]
      rw [List.take_append, List.drop_append, h0]
      rw [show j * sz + sz - sz = j * sz by omega, show j * sz + sz + sz - sz = j * sz + sz by omega, List.take_of_length_le (show r.length ≤ j * sz + sz by omega), List.drop_eq_nil_of_le (show r.length ≤ j * sz + sz + sz by omega)]
      simp
theorem effStore_sound (h : Rel V X Z w0 N ρ ok lt lb a w) (ho : ∀ q : Key, ok q → ok' q) (hd : ∀ k, o.dst = some k → k < N) (hl : ∀ t x, lt' t = some x → lt t = some x) (hb : ∀ t x, lb' t = some x → lb t = some x) {cur : Nat}
    {t : TypeId} {x y : Operand} (hop : o.op = .store t x y) (he : effStore P cur t x y lt' lb' = some e) (hn : e.needs = []) : o.wp P a w (Aft V X Z w0 N ok' lt lb o.dst e) Q := by
  unfold effStore at he
  cases h1 : ev lt' x with
  | none => simp [h1] at he
  | some av =>
    cases h2 : slot1 av with
    | none => simp [h1, h2] at he
    | some c =>
      have hc := slot1_sound h2 (ev_sound h hl h1)
      cases h3 : ev lt' y with
      | none => simp [h1, h2, h3] at he
      | some av2 =>
        cases h4 : cellsOfAV av2 with
        | none => simp [h1, h2, h3, h4] at he
        | some vcs =>
          cases h5 : sizeT P t with
          | none => simp [h1, h2, h3, h4, h5] at he
          | some sz =>
            obtain ⟨us, u1, u2, u3⟩ := cellsOfAV_sound h4 (ev_sound h hl h3)
            simp only [h1, h2, h3, h4, h5, Option.bind_some] at he
            split at he
            · rename_i q off vs' sz' e1 e2 e3
              cases e1; cases e2; cases e3
              split at he
              · rename_i ty cs hq
                split at he
                · rename_i hcnd
                  cases he
                  obtain ⟨b, vs, g1, g2, g3⟩ := (h.bx q _ (hb _ _ hq)).2
                  obtain ⟨hok, b', g4, hx⟩ := hc
                  obtain rfl : b' = b := by rw [g1] at g4; cases g4; rfl
                  have hvl := g3.length
                  obtain ⟨r1, r2⟩ := storeVar_run (P := P) (w := w) (off := off) u2 (by rw [h5, u3, hcnd.1]) g2 (by omega) u1.ones
                  have hw := keep_puts' b' us off w
                  refine wp_no (w' := w.setCells b' off us) ?_ ⟨ρ, h.set (box1 := .st ty (cs.take off ++ (vcs ++ cs.drop (off + sz)))) ho (hb _ _ hq) rfl rfl g1 hw ⟨b', _, g1, r2, ?_⟩ o.dst hd⟩
                  · simp [execOp, hop, Instr.storeAt, Instr.sureAddr, hx, r1]
                  · have hkk : Keep (Im V ρ lb) w (w.setCells b' off us) := hw.mono fun k _ hk hkb => hk.2 q _ (hb _ _ hq) rfl (by rw [g1, hkb])
                    have := (g3.take off).append (u1.append (g3.drop (off + us.length)))
                    rw [show off + us.length = off + sz by omega] at this ⊢
                    exact this.imp fun c v _ hcc => hcc.keep hkk (fun _ _ h => h) (fun _ _ => rfl) ho
                · cases he
              · cases he
            · rename_i q j off vs' sz' e1 e2 e3
              cases e1; cases e2; cases e3
              split at he
              · rename_i ty s rows hq
                split at he
                · rename_i row ds ks hrow hds
                  split at he
                  · rename_i hcnd
                    cases he
                    have hR := h.shut (shut_Shut (lb := lb) hb cur ks)
                    have hA := toDs_shut h hb hds hn u1
                    have hq2 : updB lb (shut cur lb' ks) q = some (.sl ty s rows) := by
                      have hnk : q ∉ ks := by simpa using hcnd.2.2
                      have : lk (shut cur lb' ks) q = none := by
                        rcases shut_lk cur lb' ks q with h0 | ⟨_, _, _, _, h0⟩
                        · exact h0
                        · exfalso
                          have key : ∀ (l : List Key), q ∉ l → lk (shut cur lb' l) q = none := by
                            intro l
                            induction l with
                            | nil => intro _; rfl
                            | cons k l ih =>
                              intro hm
                              have ih' := ih (fun h => hm (by simp [h]))
                              have hne : q ≠ k := fun h => hm (by simp [h])
                              unfold shut at ih' ⊢
                              by_cases hcc : k.2 == cur
                              · simp only [List.filter_cons, hcc, if_true, List.filterMap_cons]
                                split
                                · exact ih'
                                · rename_i x hx
                                  split at hx
                                  · cases hx; unfold lk; rw [if_neg hne]; exact ih'
                                  · cases hx
                              · simp only [List.filter_cons, hcc]; exact ih'
                          rw [key ks hnk] at h0
                          cases h0
                      unfold updB; rw [this]; exact hb _ _ hq
                    obtain ⟨n1, n2, n3, n4, n5, n6⟩ := (hR.bx q _ hq2).2
                    obtain ⟨hok, b', g4, hx⟩ := hc
                    rcases n6 with ⟨_, rfl, _⟩ | ⟨b, vs, sp, g1, g2, g3, g5, g6⟩
                    · simp at hrow
                    · obtain rfl : b' = b := by rw [g1] at g4; cases g4; rfl
                      have hrl := n5 j row hrow
                      have hjl : j < rows.length := by
                        rcases Nat.lt_or_ge j rows.length with g | g
                        · exact g
                        · rw [List.getElem?_eq_none g] at hrow; cases hrow
                      have hfl := flat_len n5
                      have hvl := g5.length
                      rw [List.length_map, hfl] at hvl
                      have hdl := toDs_len hds
                      have hp : j * s + s ≤ rows.length * s := by have := Nat.mul_le_mul_right s (show j + 1 ≤ rows.length from hjl); rwa [Nat.succ_mul] at this
                      have hus : us.length = sz := by omega
                      obtain ⟨r1, r2⟩ := storeVar_run (P := P) (w := w) (off := j * s + off) u2 (by rw [h5, hus]) g3 (by rw [List.length_append]; omega) u1.ones
                      have hw := keep_puts' b' us (j * s + off) w
                      have hrow' : (row.take off ++ (ds ++ row.drop (off + sz))).length = s := by simp; omega
                      have e1 := updB_cons lb q (some (.sl ty s (rows.set j (row.take off ++ (ds ++ row.drop (off + sz)))))) (shut cur lb' ks)
                      refine wp_no (w' := w.setCells b' (j * s + off) us) ?_ ⟨ρ, by
                        rw [e1]
                        refine hR.set ho hq2 rfl rfl g1 hw ?_ o.dst hd
                        simp only [BoxRel]
                        rw [n1, n2]
                        refine ⟨by simp, rfl, by simpa using n3, by simpa using n4, fun i r hi => ?_, .inr ⟨b', vs.take (j * s + off) ++ (us ++ vs.drop (j * s + off + us.length)), sp, g1, g2, ?_, ?_, by simpa using g6⟩⟩
                        · rw [List.getElem?_set] at hi
                          split at hi
                          · cases hi; exact hrow'
                          · exact n5 i r hi
                        · rw [List.take_append_of_le_length (by omega), List.drop_append_of_le_length (by omega)] at r2
                          simpa [List.append_assoc] using r2
                        · have hkk : Keep (Im V ρ (updB lb (shut cur lb' ks))) w (w.setCells b' (j * s + off) us) := hw.mono fun k _ hk hkb => hk.2 q _ hq2 rfl (by rw [g1, hkb])
                          have hflat : (rows.set j (row.take off ++ (ds ++ row.drop (off + sz)))).flatten = rows.flatten.take (j * s + off) ++ (ds ++ rows.flatten.drop (j * s + off + us.length)) := by
                            rw [flat_set n5 hrow hrow', hus]
                            have hr0 := flat_at n5 hrow
                            have t1 : rows.flatten.take (j * s + off) = rows.flatten.take (j * s) ++ row.take off := by
                              rw [List.take_add, ← hr0, List.take_take, Nat.min_eq_left (by omega)]
                            have t2 : rows.flatten.drop (j * s + off + sz) = row.drop (off + sz) ++ rows.flatten.drop (j * s + s) := by
                              have : rows.flatten.drop (j * s) = row ++ rows.flatten.drop (j * s + s) := by
                                rw [← hr0, ← List.drop_drop, List.take_append_drop]
                              rw [Nat.add_assoc, ← List.drop_drop, this, List.drop_append_of_le_length (by omega)]
                            rw [t1, t2]
                            simp [List.append_assoc]
                          rw [hflat, List.map_append, List.map_append, List.map_take, List.map_drop]
                          have := (g5.take (j * s + off)).append (hA.append (g5.drop (j * s + off + us.length)))
                          exact this.imp fun c v _ hcc => hcc.keep hkk (fun _ _ h => h) (fun _ _ => rfl) ho⟩
                      · rw [n2] at hx
                        simp [execOp, hop, Instr.storeAt, Instr.sureAddr, hx, r1]
                  · cases he
                · cases he
              · cases he
            · cases he
end
end Go.Proofs.YtnaknldbmapolaaGreatDoor
