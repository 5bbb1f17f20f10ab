/- Rules of runs and contracts of functions, for the claims of one seat. -/
import Derived.Test.YtjpdemikmdfonaaGreatDoorFA3
import Derived.Test.YtjpdemikmdfonaaGreatDoorFA4
namespace Go.Proofs.YtjpdemikmdfonaaGreatDoor
open Go Go.RowKit
set_option linter.unusedSimpArgs false
set_option linter.unusedVariables false
theorem keep_puts' (g : Nat) : ∀ (vs : List Value) (o : Nat) (w : World), Keep (fun k => k ≠ g) w (w.setCells g o vs)
 | [], o, w => Keep.refl _ _
 | v :: vs, o, w => by
  have e : w.setCells g o (v :: vs) = (w.setCell ⟨g, o, none⟩ v).setCells g (o + 1) vs := by simp [World.setCells]
  rw [e]
  exact (Keep.setCell w (fun h => h rfl) v).trans (keep_puts' g vs (o + 1) _)
theorem All2.ones {S : Nat → Prop} {ρ : Key → Hd} {ok : Key → Prop} {w : World} {cs : List C} {vs : List Value} (h : All2 (CRel S ρ ok w) cs vs) : ∀ v ∈ vs, v.oneCell' = true := by
 induction h with
 | nil => intro v hv; cases hv
 | cons h t ih =>
  intro v hv
  rcases List.mem_cons.1 hv with rfl | hv
  ·exact h.one
  ·exact ih v hv
theorem storeVar_run {P : Program} {w : World} {t : TypeId} {v : Value} {us vs : List Value} {b off : Nat} {ty : TypeId} (hv : v.cells = us.toArray) (hs : sizeT P t = some us.length) (hB : Blk w b ty vs.toArray) (hfit : off + us.length ≤ vs.length) (h1 : ∀ u ∈ us, u.oneCell' = true) :
    (storeVar t ⟨b, off, none⟩ v).run P w = .ok () (w.setCells b off us) ∧ Blk (w.setCells b off us) b ty (vs.take off ++ (us ++ vs.drop (off + us.length))).toArray := by
 constructor
 ·have := run_storeCells_cells (P := P) b off us 0 w (fun j hj => by rw [hB.cell]; simp; omega) (fun j hj => hB.frozen _) h1
  simp only [Nat.add_zero] at this
  simp [storeVar, Sem.run_bind, size_run hs, hv, this]
 ·have := blk_puts b ty us w (vs.take off) (vs.drop off) (by rw [List.take_append_drop]; exact hB) (by simp; omega)
  rw [List.length_take, Nat.min_eq_left (by omega), List.drop_drop] at this
  exact this
section
variable {V X : Nat → Prop} {Z : Key → Hd} {w0 w w' : World} {N : Nat} {ρ : Key → Hd} {ok ok' : Key → Prop} {lt lt' : Nat → Option AV} {lb lb' lb2 : Key → Option Box} {a : Act} {P : Program} {o : Oper} {e : Eff} {Q : Exit → Act → World → Prop}
theorem im_set {q : Key} {box0 box1 : Box} (hq : lb q = some box0) (l0 : box0.live = true) (l1 : box1.live = true) : Im V ρ (updB lb [(q, some box1)]) = Im V ρ lb := by
 funext b
 refine propext ⟨fun h => ⟨h.1, fun q' box hq' hl => ?_⟩, fun h => ⟨h.1, fun q' box hq' hl => ?_⟩⟩
 ·by_cases e : q' = q
  ·subst e; exact h.2 q' box1 (by rw [updB_one, if_pos rfl]) l1
  ·exact h.2 q' box (by rw [updB_one, if_neg e]; exact hq') hl
 ·rw [updB_one] at hq'
  by_cases e : q' = q
  ·subst e; exact h.2 q' box0 hq l0
  ·rw [if_neg e] at hq'; exact h.2 q' box hq' hl
theorem Rel.set (h : Rel V X Z w0 N ρ ok lt lb a w) (ho : ∀ q : Key, ok q → ok' q) {q : Key} {box0 box1 : Box} (hq : lb q = some box0) (l0 : box0.live = true) (l1 : box1.live = true) {b : Nat} (hg : (ρ q).g = some b) (hw : Keep (fun k => k ≠ b) w w')
    (hB : BoxRel (Im V ρ lb) ρ ok' w' q box1) (d : Option Nat) (hd : ∀ k, d = some k → k < N) : Rel V X Z w0 N ρ ok' (updT lt d .un) (updB lb [(q, some box1)]) (a.put d undef) w' := by
 have hi := im_set (V := V) (ρ := ρ) (lb := lb) hq l0 l1
 have back : ∀ q' box, updB lb [(q, some box1)] q' = some box → box.live = true → ∃ box', lb q' = some box' ∧ box'.live = true := fun q' box hq' hl => by
  rw [updB_one] at hq'
  by_cases e : q' = q
  ·subst e; exact ⟨box0, hq, l0⟩
  ·rw [if_neg e] at hq'; exact ⟨box, hq', hl⟩
 refine h.step d .un undef hd ?_ ?_ (fun _ _ => rfl) ho rfl (fun q' box hq' => ?_) (fun q1 b1 q2 b2 bb e1 l1 e2 l2 g1 g2 => ?_) (fun q' box bb hq' hl hgb => ?_) ?_
 ·rw [hi]; exact hw.mono fun k _ hk hkb => hk.2 q box0 hq l0 (by rw [hg, hkb])
 ·rw [hi]; exact fun _ _ h => h
 ·rw [updB_one] at hq'
  by_cases e : q' = q
  ·subst e
   rw [if_pos rfl] at hq'
   cases hq'
   exact .inr ⟨ho _ (h.bx _ _ hq).1, by rw [hi]; exact hB⟩
  ·rw [if_neg e] at hq'
   refine .inl ⟨hq', fun hl bb hgb => hw.block bb (h.lo q' box bb hq' hl hgb).1 (fun ebb => e ?_)⟩
   subst ebb
   exact h.ap q' box q box0 bb hq' hl hq l0 hgb hg
 ·obtain ⟨x1, k1, k2⟩ := back q1 b1 e1 l1
  obtain ⟨x2, k3, k4⟩ := back q2 b2 e2 l2
  exact h.ap q1 x1 q2 x2 bb k1 k2 k3 k4 g1 g2
 ·obtain ⟨x1, k1, k2⟩ := back q' box hq' hl
  have := h.lo q' x1 bb k1 k2 hgb
  exact ⟨Nat.lt_of_lt_of_le this.1 hw.size, this.2⟩
 ·refine Keep.out h (hw.mono fun k _ hk hkb => hk q box0 hq l0 (by rw [hg, hkb]))
theorem flat_set {α : Type} {sz : Nat} : ∀ {rows : List (List α)}, (∀ (i : Nat) (row : List α), rows[i]? = some row → row.length = sz) → ∀ {j : Nat} {row row' : List α}, rows[j]? = some row → row'.length = sz → (rows.set j row').flatten = rows.flatten.take (j * sz) ++ (row' ++ rows.flatten.drop (j * sz + sz))
 | [], _, j, row, row', h, _ => by simp at h
 | r :: rows, hl, j, row, row', h, hr => by
  have h0 := hl 0 r (by simp)
  cases j with
  | zero => simp [← h0]
  | succ j =>
   rw [List.set_cons_succ, List.flatten_cons, List.flatten_cons, flat_set (fun k row hk => hl (k + 1) row (by simpa using hk)) (by simpa using h) hr, Nat.succ_mul]
   rw [List.take_append, List.drop_append, h0]
   rw [show j * sz + sz - sz = j * sz by omega, show j * sz + sz + sz - sz = j * sz + sz by omega, List.take_of_length_le (show r.length ≤ j * sz + sz by omega), List.drop_eq_nil_of_le (show r.length ≤ j * sz + sz + sz by omega)]
   simp
theorem effStore_sound (h : Rel V X Z w0 N ρ ok lt lb a w) (ho : ∀ q : Key, ok q → ok' q) (hd : ∀ k, o.dst = some k → k < N) (hl : ∀ t x, lt' t = some x → lt t = some x) (hb : ∀ t x, lb' t = some x → lb t = some x) {cur : Nat}
    {t : TypeId} {x y : Operand} (hop : o.op = .store t x y) (he : effStore P cur t x y lt' lb' = some e) (hn : e.needs = []) : o.wp P a w (Aft V X Z w0 N ok' lt lb o.dst e) Q := by
 unfold effStore at he
 cases h1 : ev lt' x with
 | none => simp [h1] at he
 | some av =>
  cases h2 : slot1 av with
  | none => simp [h1, h2] at he
  | some c =>
   have hc := slot1_sound h2 (ev_sound h hl h1)
   cases h3 : ev lt' y with
   | none => simp [h1, h2, h3] at he
   | some av2 =>
    cases h4 : cellsOfAV av2 with
    | none => simp [h1, h2, h3, h4] at he
    | some vcs =>
     cases h5 : sizeT P t with
     | none => simp [h1, h2, h3, h4, h5] at he
     | some sz =>
      obtain ⟨us, u1, u2, u3⟩ := cellsOfAV_sound h4 (ev_sound h hl h3)
      simp only [h1, h2, h3, h4, h5, Option.bind_some] at he
      split at he
      ·rename_i q off vs' sz' e1 e2 e3
       cases e1; cases e2; cases e3
       split at he
       ·rename_i ty cs hq
        split at he
        ·rename_i hcnd
         cases he
         obtain ⟨b, vs, g1, g2, g3⟩ := (h.bx q _ (hb _ _ hq)).2
         obtain ⟨hok, b', g4, hx⟩ := hc
         obtain rfl : b' = b := by rw [g1] at g4; cases g4; rfl
         have hvl := g3.length
         obtain ⟨r1, r2⟩ := storeVar_run (P := P) (w := w) (off := off) u2 (by rw [h5, u3, hcnd.1]) g2 (by omega) u1.ones
         have hw := keep_puts' b' us off w
         refine wp_no (w' := w.setCells b' off us) ?_ ⟨ρ, h.set (box1 := .st ty (cs.take off ++ (vcs ++ cs.drop (off + sz)))) ho (hb _ _ hq) rfl rfl g1 hw ⟨b', _, g1, r2, ?_⟩ o.dst hd⟩
         ·simp [execOp, hop, Instr.storeAt, Instr.sureAddr, hx, r1]
         ·have hkk : Keep (Im V ρ lb) w (w.setCells b' off us) := hw.mono fun k _ hk hkb => hk.2 q _ (hb _ _ hq) rfl (by rw [g1, hkb])
          have := (g3.take off).append (u1.append (g3.drop (off + us.length)))
          rw [show off + us.length = off + sz by omega] at this ⊢
          exact this.imp fun c v _ hcc => hcc.keep hkk (fun _ _ h => h) (fun _ _ => rfl) ho
        ·cases he
       ·cases he
      ·rename_i q j off vs' sz' e1 e2 e3
       cases e1; cases e2; cases e3
       split at he
       ·rename_i ty s rows hq
        split at he
        ·rename_i row ds ks hrow hds
         split at he
         ·rename_i hcnd
          cases he
          have hR := h.shut (shut_Shut (lb := lb) hb cur ks)
          have hA := toDs_shut h hb hds hn u1
          have hq2 : updB lb (shut cur lb' ks) q = some (.sl ty s rows) := by
           have hnk : q ∉ ks := by simpa using hcnd.2.2
           have : lk (shut cur lb' ks) q = none := by
            rcases shut_lk cur lb' ks q with h0 | ⟨_, _, _, _, h0⟩
            ·exact h0
            ·exfalso
             have key : ∀ (l : List Key), q ∉ l → lk (shut cur lb' l) q = none := by
              intro l
              induction l with
              | nil => intro _; rfl
              | cons k l ih =>
               intro hm
               have ih' := ih (fun h => hm (by simp [h]))
               have hne : q ≠ k := fun h => hm (by simp [h])
               unfold shut at ih' ⊢
               by_cases hcc : k.2 == cur
               ·simp only [List.filter_cons, hcc, if_true, List.filterMap_cons]
                split
                ·exact ih'
                ·rename_i x hx
                 split at hx
                 ·cases hx; unfold lk; rw [if_neg hne]; exact ih'
                 ·cases hx
               ·simp only [List.filter_cons, hcc]; exact ih'
             rw [key ks hnk] at h0
             cases h0
           unfold updB; rw [this]; exact hb _ _ hq
          obtain ⟨n1, n2, n3, n4, n5, n6⟩ := (hR.bx q _ hq2).2
          obtain ⟨hok, b', g4, hx⟩ := hc
          rcases n6 with ⟨_, rfl, _⟩ | ⟨b, vs, sp, g1, g2, g3, g5, g6⟩
          ·simp at hrow
          ·obtain rfl : b' = b := by rw [g1] at g4; cases g4; rfl
           have hrl := n5 j row hrow
           have hjl : j < rows.length := by
            rcases Nat.lt_or_ge j rows.length with g | g
            ·exact g
            ·rw [List.getElem?_eq_none g] at hrow; cases hrow
           have hfl := flat_len n5
           have hvl := g5.length
           rw [List.length_map, hfl] at hvl
           have hdl := toDs_len hds
           have hp : j * s + s ≤ rows.length * s := by have := Nat.mul_le_mul_right s (show j + 1 ≤ rows.length from hjl); rwa [Nat.succ_mul] at this
           have hus : us.length = sz := by omega
           obtain ⟨r1, r2⟩ := storeVar_run (P := P) (w := w) (off := j * s + off) u2 (by rw [h5, hus]) g3 (by rw [List.length_append]; omega) u1.ones
           have hw := keep_puts' b' us (j * s + off) w
           have hrow' : (row.take off ++ (ds ++ row.drop (off + sz))).length = s := by simp; omega
           have e1 := updB_cons lb q (some (.sl ty s (rows.set j (row.take off ++ (ds ++ row.drop (off + sz)))))) (shut cur lb' ks)
           refine wp_no (w' := w.setCells b' (j * s + off) us) ?_ ⟨ρ, by
            rw [e1]
            refine hR.set ho hq2 rfl rfl g1 hw ?_ o.dst hd
            simp only [BoxRel]
            rw [n1, n2]
            refine ⟨by simp, rfl, by simpa using n3, by simpa using n4, fun i r hi => ?_, .inr ⟨b', vs.take (j * s + off) ++ (us ++ vs.drop (j * s + off + us.length)), sp, g1, g2, ?_, ?_, by simpa using g6⟩⟩
            ·rw [List.getElem?_set] at hi
             split at hi
             ·cases hi; exact hrow'
             ·exact n5 i r hi
            ·rw [List.take_append_of_le_length (by omega), List.drop_append_of_le_length (by omega)] at r2
             simpa [List.append_assoc] using r2
            ·have hkk : Keep (Im V ρ (updB lb (shut cur lb' ks))) w (w.setCells b' (j * s + off) us) := hw.mono fun k _ hk hkb => hk.2 q _ hq2 rfl (by rw [g1, hkb])
             have hflat : (rows.set j (row.take off ++ (ds ++ row.drop (off + sz)))).flatten = rows.flatten.take (j * s + off) ++ (ds ++ rows.flatten.drop (j * s + off + us.length)) := by
              rw [flat_set n5 hrow hrow', hus]
              have hr0 := flat_at n5 hrow
              have t1 : rows.flatten.take (j * s + off) = rows.flatten.take (j * s) ++ row.take off := by
               rw [List.take_add, ← hr0, List.take_take, Nat.min_eq_left (by omega)]
              have t2 : rows.flatten.drop (j * s + off + sz) = row.drop (off + sz) ++ rows.flatten.drop (j * s + s) := by
               have : rows.flatten.drop (j * s) = row ++ rows.flatten.drop (j * s + s) := by
                rw [← hr0, ← List.drop_drop, List.take_append_drop]
               rw [Nat.add_assoc, ← List.drop_drop, this, List.drop_append_of_le_length (by omega)]
              rw [t1, t2]
              simp [List.append_assoc]
             rw [hflat, List.map_append, List.map_append, List.map_take, List.map_drop]
             have := (g5.take (j * s + off)).append (hA.append (g5.drop (j * s + off + us.length)))
             exact this.imp fun c v _ hcc => hcc.keep hkk (fun _ _ h => h) (fun _ _ => rfl) ho⟩
           ·rw [n2] at hx
            simp [execOp, hop, Instr.storeAt, Instr.sureAddr, hx, r1]
         ·cases he
        ·cases he
       ·cases he
      ·cases he
theorem effClear_sound (h : Rel V X Z w0 N ρ ok lt lb a w) (ho : ∀ q : Key, ok q → ok' q) (hd : ∀ k, o.dst = some k → k < N) (hl : ∀ t x, lt' t = some x → lt t = some x) (hb : ∀ t x, lb' t = some x → lb t = some x)
    {t : TypeId} {x : Operand} (hop : o.op = .call { callee := .builtin .clear, args := #[x], argTypes := #[t] }) (hdst : o.dst = none) (he : effClear P t x lt' lb' = some e) : o.wp P a w (Aft V X Z w0 N ok' lt lb o.dst e) Q := by
 unfold effClear at he
 split at he
 ·rename_i el q hu hx
  split at he
  ·rename_i ty sz rows ie hq hie
   split at he
   ·rename_i z hz
    split at he
    ·rename_i hc
     split at he
     ·rename_i row ks hrow
      cases he
      obtain ⟨c1, c2, c3, c4⟩ := hc
      obtain ⟨av, hx1, hx2⟩ := Option.bind_eq_some_iff.1 hx
      obtain ⟨hok, hv⟩ := slot1_sound hx2 (ev_sound h hl hx1)
      obtain ⟨n1, n2, n3, n4, n5, n6⟩ := (h.bx q _ (hb _ _ hq)).2
      obtain ⟨zs, hzs, hds⟩ := Option.bind_eq_some_iff.1 hrow
      have hA0 : All2 (CRel (Im V ρ lb) ρ ok w) zs z.cells.toList := cellCs_sound hzs
      have hA : All2 (CRel (Im V ρ lb) ρ ok w) (row.map .d) z.cells.toList := toDs_sound h (lb' := fun _ => none) (fun _ _ h => by cases h) (fun b _ hi => hi) hds (fun q box b _ hq => by cases hq) hA0
      have hzl : z.cells.toList.length = sz := by simp [c1, c2]
      have hrl : row.length = sz := by rw [toDs_len hds, hA0.length]; exact hzl
      rcases n6 with ⟨_, rfl, _⟩ | ⟨b, vs, sp, g1, g2, g3, g5, g6⟩
      ·simp at c4
      ·have hvl := g5.length
       rw [List.length_map, flat_len n5] at hvl
       obtain ⟨us, hus⟩ : ∃ us, us = (List.replicate rows.length z.cells.toList).flatten := ⟨_, rfl⟩
       have hul : us.length = rows.length * sz := by rw [hus, repl_len, hzl]
       have hAus : All2 (CRel (Im V ρ lb) ρ ok w) (List.replicate rows.length (row.map C.d)).flatten us := by rw [hus]; exact hA.rep _
       have hzc : (Builtin.zeroCells z.cells rows.length).toList = us := by rw [hus]; exact zeros_flat z.cells rows.length (by omega)
       have hst := run_storeCells_cells (P := P) b 0 us 0 w (fun j hj => by rw [g3.cell]; simp; omega) (fun j hj => g3.frozen _) hAus.ones
       simp only [Nat.add_zero] at hst
       have hrun : (execOp a.eval o).run P w = .ok (.value (.tuple #[])) (w.setCells b 0 us) := by
        have hv' : a.eval x = .slice (some ⟨b, 0, none⟩) rows.length (ρ q).cap := by rw [hv, g2, n1]
        obtain ⟨m, hm⟩ : ∃ m, rows.length = m + 1 := ⟨rows.length - 1, by omega⟩
        rw [hm] at hv' hzc
        simp [execOp, hop, resolve, invoke, builtin, Builtin.clear_, run_underlying hu, hv', zeroValue, typeInfo, hie, hz, hzc, hst]
       have hblk := blk_puts b ty us w [] (vs ++ sp) (by simpa using g3) (by simp; omega)
       rw [List.drop_append_of_le_length (by omega), List.drop_eq_nil_of_le (by omega)] at hblk
       simp only [List.nil_append, List.length_nil] at hblk
       have hw := keep_puts' b us 0 w
       have hput : a.put o.dst (.tuple #[]) = a.put o.dst undef := by rw [hdst]; rfl
       refine wp_val hrun ?_
       rw [hput]
       refine ⟨ρ, h.set ho (hb _ _ hq) rfl rfl g1 hw ?_ o.dst hd⟩
       simp only [BoxRel]
       rw [n1, n2, List.length_replicate]
       refine ⟨rfl, rfl, n3, n4, fun i r hi => by rw [List.eq_of_mem_replicate (List.mem_of_getElem? hi)]; exact hrl, .inr ⟨b, us, sp, g1, g2, hblk, ?_, g6⟩⟩
       have hkk : Keep (Im V ρ lb) w (w.setCells b 0 us) := hw.mono fun k _ hk hkb => hk.2 q _ (hb _ _ hq) rfl (by rw [g1, hkb])
       have e1 : (List.replicate rows.length row).flatten.map C.d = (List.replicate rows.length (row.map C.d)).flatten := by rw [List.map_flatten, List.map_replicate]
       rw [e1]
       exact hAus.imp fun c v _ hcc => hcc.keep hkk (fun _ _ h => h) (fun _ _ => rfl) ho
     ·cases he
    ·cases he
   ·cases he
  ·cases he
 ·cases he
end
end Go.Proofs.YtjpdemikmdfonaaGreatDoor
namespace Go.Proofs.YtjpdemikmdfonaaGreatDoor
open Go Go.RowKit
set_option linter.unusedSimpArgs false
set_option linter.unusedVariables false
theorem run_own3 {P : Program} {w : World} (t tx ty e : TypeId) (i : TypeInfo) (z : Value) (ht : P.underlying t = some (.slice e)) (hi : P.info? e = some i) (hz : i.zero = some z) (hzs : z.cells.size = i.size) (A : Option Addr) (m c : Nat) (olds : List Value)
    (ho : Own 0 w e i.size A m c olds) (x : Value) (n : Nat) (news : List Value) (hs : Src P i.size tx x n news w)
    (hb : (m + n) * i.bytes ≤ 140737488355328) (hm : m + n ≤ 4611686018427387904) :
    ∃ A' c' w', (Builtin.append_ #[t, tx] ty #[.slice A m c, x]).run P w = .ok (.slice A' (m + n) c') w' ∧
     ((n = 0 ∧ A' = A ∧ c' = c ∧ w' = w) ∨
      ∃ g sp, 0 < n ∧ A' = some ⟨g, 0, none⟩ ∧ m + n ≤ c' ∧ Blk w' g e (olds ++ news ++ sp).toArray ∧ sp.length = (c' - (m + n)) * i.size ∧ Keep (fun k => k ≠ g) w w' ∧ (w.heap.size ≤ g ∨ (A = some ⟨g, 0, none⟩ ∧ 0 < c))) := by
 have hnl := hs.newsLen
 rcases Nat.eq_zero_or_pos n with hn | hn
 ·subst hn
  obtain rfl : news = [] := List.length_eq_zero_iff.1 (by simpa using hnl)
  refine ⟨A, c, w, ?_, .inl ⟨rfl, rfl, rfl, rfl⟩⟩
  rcases hs.kind with ⟨e', hk⟩ | hk <;> cases A <;> simp [Builtin.append_, run_underlying ht, run_underlying hk, sizeOf, typeInfo, hi, hs.len, ho.1, hs.cells, storeCells]
 by_cases hr : m + n ≤ c
 ·obtain ⟨g, sp, rfl, hg, hsp, hB⟩ := ho.2.2.resolve_left (by omega)
  have hlen : (olds ++ sp).length = c * i.size := by
   rw [List.length_append, ho.2.1, hsp, ← Nat.add_mul]
   congr 1
   omega
  have hfit : (m + n) * i.size ≤ c * i.size := Nat.mul_le_mul_right _ hr
  rw [Nat.add_mul] at hfit
  have hol := ho.2.1
  rw [List.length_append] at hlen
  refine ⟨_, c, _, run_append_room_src w t tx ty e i ht hi g 0 m c x n news hs hr (fun j hj => ?_) (fun j hj => hB.frozen _), .inr ⟨g, sp.drop news.length, hn, rfl, hr, ?_, ?_, keep_puts' g _ _ _, .inr ⟨rfl, by omega⟩⟩⟩
  ·rw [hB.cell]
   simp
   omega
  ·have := blk_puts g e news w olds sp hB (by omega)
   rw [Nat.zero_add, ← ho.2.1, List.append_assoc]
   exact this
  ·rw [List.length_drop, hsp, hnl, ← Nat.sub_mul]
   congr 1
   omega
 ·have hold : (Builtin.firstCells i.size m (.slice A m c)).run P w.drew = .ok olds.toArray w.drew := by
    cases A with
    | none =>
     rcases ho.2.2 with ⟨h0, hc⟩ | ⟨g, sp, h1, _⟩
     ·have h1 := ho.2.1
      subst h0
      obtain rfl : olds = [] := List.length_eq_zero_iff.1 (by simpa using h1)
      exact run_firstCells_none _ _ _ _ _
     ·cases h1
    | some a =>
     refine run_firstCells_some _ _ _ _ _ _ _ ho.2.1 (fun j u hu => ?_)
     obtain ⟨hj, rfl⟩ := List.getElem?_eq_some_iff.1 hu
     obtain ⟨b, off, e, _, h3⟩ := ho.drew.cells j hj
     cases e
     rw [Addr.add_lit]
     exact h3
  obtain ⟨A', c', w', h1, h2, h3⟩ := run_grow w.heap.size (Nat.le_refl _) t tx ty e i z ht hi hz hzs A m c olds ho.2.1 hold x n news hs (by omega) hb hm
  obtain ⟨g, sp, e1, e2, e3, e4⟩ := h2.blk (by omega)
  exact ⟨A', c', w', h1, .inr ⟨g, sp, hn, e1, h2.1, e4, e3, Keep.of_below h3 (fun b hb _ => hb), .inl e2⟩⟩
theorem All2.of_get {R : C → Value → Prop} : ∀ {cs : List C} {vs : List Value}, cs.length = vs.length → (∀ (i : Nat) (c : C), cs[i]? = some c → ∃ v, vs[i]? = some v ∧ R c v) → All2 R cs vs
 | [], [], _, _ => .nil
 | [], _ :: _, h, _ => by simp at h
 | _ :: _, [], h, _ => by simp at h
 | c :: cs, v :: vs, h, hg => by
  obtain ⟨v', h1, h2⟩ := hg 0 c (by simp)
  simp at h1
  subst h1
  exact .cons h2 (All2.of_get (by simpa using h) fun i c hc => by simpa using hg (i + 1) c (by simpa using hc))
section
variable {V X : Nat → Prop} {Z : Key → Hd} {w0 w w' : World} {N : Nat} {ρ : Key → Hd} {ok ok' : Key → Prop} {lt lt' : Nat → Option AV} {lb lb' lb2 : Key → Option Box} {a : Act} {P : Program} {o : Oper} {e : Eff} {Q : Exit → Act → World → Prop}
theorem rd_cells {S : Nat → Prop} {sz : Nat} {rows : List (List D)} {v : Value} (hz : 0 < sz) (h : Rd S w (.sl sz rows) v) : ∃ A c us, v = .slice A rows.length c ∧ us.length = rows.length * sz ∧ Cells w A us ∧ All2 (CRel S ρ ok w) (rows.flatten.map .d) us ∧ (A = none → rows.length = 0) ∧ (∀ (i : Nat) (row : List D), rows[i]? = some row → row.length = sz) := by
 cases h with
 | @sl _ _ A c b o' cv hc hb hA hl hcell hrd =>
  have hfl := flat_len hl
  have hat : ∀ k, k < rows.length * sz → ∃ row d, rows[k / sz]? = some row ∧ row[k % sz]? = some d ∧ rows.flatten[k]? = some d := by
   intro k hk
   have h1 : k / sz < rows.length := (Nat.div_lt_iff_lt_mul hz).2 hk
   have h2 : k % sz < sz := Nat.mod_lt _ hz
   have h3 : rows[k / sz]? = some rows[k / sz] := List.getElem?_eq_getElem h1
   have h4 := hl _ _ h3
   have h5 : (rows[k / sz])[k % sz]? = some ((rows[k / sz])[k % sz]'(by omega)) := List.getElem?_eq_getElem (by omega)
   refine ⟨_, _, h3, h5, ?_⟩
   have h6 := mk_flat hl h3 h2
   rw [show k / sz * sz + k % sz = k from by rw [Nat.mul_comm]; exact Nat.div_add_mod _ _] at h6
   rw [h6, h5]
  refine ⟨A, c, (List.range (rows.length * sz)).map (fun k => cv (k / sz) (k % sz)), rfl, by simp, fun j hj => ?_, All2.of_get (by rw [List.length_map, hfl, List.length_map, List.length_range]) (fun k cc hk => ?_), fun hn => ?_, hl⟩
  ·simp at hj
   obtain ⟨row, d, h1, h2, h3⟩ := hat j hj
   obtain ⟨g1, g2, g3⟩ := hA (ne_nil_of_get h1)
   refine ⟨b, o', g1, g2, ?_⟩
   have := hcell _ _ _ _ h1 h2
   rw [show j / sz * sz + j % sz = j from by rw [Nat.mul_comm]; exact Nat.div_add_mod _ _] at this
   simpa using this
  ·have hkl : k < rows.length * sz := by
     rcases Nat.lt_or_ge k (rows.length * sz) with g | g
     ·exact g
     ·rw [List.getElem?_eq_none (by rw [List.length_map, hfl]; exact g)] at hk; cases hk
   obtain ⟨row, d, h1, h2, h3⟩ := hat k hkl
   rw [List.getElem?_map, h3] at hk
   simp at hk
   subst hk
   exact ⟨cv (k / sz) (k % sz), by simp [hkl], hrd _ _ _ _ h1 h2⟩
  ·rcases Nat.eq_zero_or_pos rows.length with g | g
   ·exact g
   ·have := (hA (by intro e; simp [e] at g)).1
    rw [hn] at this
    cases this
theorem look_sound (h : Rel V X Z w0 N ρ ok lt lb a w) (hb : ∀ t x, lb' t = some x → lb t = some x) {sz : Nat} (hz : 0 < sz) {c : C} {v : Value} {new : List (List D)} (he : lookRows lb' sz c = some new) (hv : CRel (Im V ρ lb) ρ ok w c v) :
    ∃ A cp us, v = .slice A new.length cp ∧ us.length = new.length * sz ∧ Cells w A us ∧ All2 (CRel (Im V ρ lb) ρ ok w) (new.flatten.map .d) us ∧ (A = none → new.length = 0) ∧ (∀ (i : Nat) (row : List D), new[i]? = some row → row.length = sz) := by
 have hnil : ∀ (A : Option Addr) (cp : Nat), ∃ A' cp' us, Value.slice A 0 cp = .slice A' ([] : List (List D)).length cp' ∧ us.length = ([] : List (List D)).length * sz ∧ Cells w A' us ∧ All2 (CRel (Im V ρ lb) ρ ok w) (([] : List (List D)).flatten.map .d) us ∧ (A' = none → ([] : List (List D)).length = 0) ∧ (∀ (i : Nat) (row : List D), ([] : List (List D))[i]? = some row → row.length = sz) :=
  fun A cp => ⟨A, cp, [], rfl, by simp, Cells.nil, .nil, fun _ => rfl, by simp⟩
 cases c with
 | zero => simp [lookRows] at he; subst he; obtain ⟨A, rfl⟩ := hv; exact hnil A 0
 | d d =>
  cases d with
  | v x => simp [lookRows] at he
  | sl s rows =>
   simp only [lookRows] at he
   split at he
   ·rename_i hc
    cases he
    simp at hc
    rcases hc with rfl | rfl
    ·exact rd_cells hz hv
    ·cases hv with | sl => exact hnil _ _
   ·cases he
 | own q =>
  simp only [lookRows] at he
  split at he
  ·rename_i s rows hq
   split at he
   ·rename_i hc
    cases he
    simp at hc
    obtain ⟨_, rfl⟩ := hv
    have hn := rowsOf_sound h hb hq
    rcases hc with rfl | rfl
    ·unfold rowsOf at hq
     split at hq
     ·rename_i ty sz' rows' hq'
      cases hq
      obtain ⟨n1, n2, n3, n4, n5, n6⟩ := (h.bx q _ (hb _ _ hq')).2
      rw [hn]
      rcases n6 with ⟨_, rfl, _⟩ | ⟨b, vs, sp, g1, g2, g3, g5, g6⟩
      ·exact hnil _ _
      ·have hvl := g5.length
       rw [List.length_map, flat_len n5] at hvl
       refine ⟨_, _, vs, rfl, hvl.symm, fun j hj => ⟨b, 0, g2, g3.lt, ?_⟩, g5, (fun hA => by rw [g2] at hA; cases hA), n5⟩
       rw [g3.cell]
       simp [List.getElem?_append_left hj]
     ·rename_i sz' rows' hq'
      cases hq
      exact rd_cells hz (h.bx q _ (hb _ _ hq')).2
     ·cases hq
    ·rw [hn]; exact hnil _ _
   ·cases he
  ·cases he
 | ptr => simp [lookRows] at he
 | eptr => simp [lookRows] at he
 | rptr => simp [lookRows] at he
 | arr q n z =>
  simp only [lookRows] at he
  split at he
  ·rename_i ty cs hq
   split at he
   ·rename_i hcond
    obtain ⟨rfl, hle⟩ := hcond
    obtain ⟨ds, hda, rfl⟩ := Option.map_eq_some_iff.1 he
    have hds := allD_toDs lb' hda
    obtain ⟨b, vs, y1, y2, y3⟩ := (h.bx q _ (hb _ _ hq)).2
    obtain ⟨_, b', y4, cp, hcp, rfl⟩ := hv
    obtain rfl : b' = b := by rw [y1] at y4; cases y4; rfl
    have hA := toDs_sound h hb (fun _ _ hi => hi) hds (fun _ _ _ hm => by cases hm) (y3.take (n * z))
    have hdl : ds.length = n * z := by rw [toDs_len hds, List.length_take]; omega
    have hvl := hA.length
    rw [List.length_map, hdl] at hvl
    refine ⟨_, _, vs.take (n * z), by rw [chunks_len], by rw [chunks_len]; exact hvl.symm, fun j hj => ⟨b', 0, rfl, y2.lt, ?_⟩, by rw [chunks_flat z n ds hdl]; exact hA, (fun e => by cases e), chunks_row z n ds hdl⟩
    rw [y2.cell]
    have hj2 : j < n * z := by rw [← hvl] at hj; exact hj
    have hj3 : j < vs.length := by have := List.length_take_le' (n * z) vs; omega
    simp [hj2, hj3]
   ·cases he
  ·cases he
 | mp => simp [lookRows] at he
 | fn => simp [lookRows] at he
 | dead => simp [lookRows] at he
theorem rowNums_flat : ∀ {rows : List (List D)} {xs : List Int}, rowNums rows = some xs → rows.flatten = xs.map (fun n => D.v (.int .u8 n)) ∧ rows.length = xs.length
 | [], xs, h => by
  obtain rfl : xs = [] := (Option.some.inj h).symm
  exact ⟨rfl, rfl⟩
 | r :: rs, xs, h => by
  unfold rowNums at h
  split at h
  ·rename_i he
   cases he
  ·rename_i n r' he
   cases he
   obtain ⟨ys, h1, rfl⟩ := Option.map_eq_some_iff.1 h
   obtain ⟨h2, h3⟩ := rowNums_flat h1
   exact ⟨by rw [List.flatten_cons, h2]; rfl, by simp [h3]⟩
  ·cases h
theorem all2_nums {S : Nat → Prop} : ∀ {xs : List Int} {us : List Value}, All2 (CRel S ρ ok w) ((xs.map fun n => D.v (.int .u8 n)).map C.d) us → us = xs.map (Value.int .u8)
 | [], us, h => by cases h; rfl
 | n :: xs, us, h => by
  cases h with
  | cons h1 h2 =>
   have h1 : Rd S w (.v (.int .u8 n)) _ := h1
   cases h1
   rw [all2_nums h2]; rfl
theorem effConv_sound (h : Rel V X Z w0 N ρ ok lt lb a w) (ho : ∀ q : Key, ok q → ok' q) (hd : ∀ k, o.dst = some k → k < N) (hl : ∀ t x, lt' t = some x → lt t = some x) (hb : ∀ t x, lb' t = some x → lb t = some x)
    {s t : TypeId} {x : Operand} (hop : o.op = .convert s t x) (he : effConv P s t x o lt' lb' = some e) : o.wp P a w (Aft V X Z w0 N ok' lt lb o.dst e) Q := by
 unfold effConv at he
 split at he
 ·rename_i el hs ht
  split at he
  ·rename_i c hel hx
   obtain ⟨xs, h1, rfl⟩ := Option.map_eq_some_iff.1 he
   obtain ⟨rows, h2, h3⟩ := Option.bind_eq_some_iff.1 h1
   obtain ⟨av, h4, h5⟩ := Option.bind_eq_some_iff.1 hx
   obtain ⟨A, cp, us, e1, e2, e3, e4, e5, e6⟩ := look_sound h hb (by decide) h2 (slot1_sound h5 (ev_sound h hl h4))
   obtain ⟨f1, f2⟩ := rowNums_flat h3
   rw [f1] at e4
   have f3 := all2_nums e4
   subst f3
   refine sound_pure h ho hd rfl (v := .string (strOfNums xs)) ?_ (one1 (.v rfl))
   have hrun : (convert s t (a.eval x)).run P w = .ok (.string (strOfNums xs)) w := by
    rw [e1]
    cases A with
    | none =>
     have : xs = [] := List.eq_nil_of_length_eq_zero (by rw [← f2]; exact e5 rfl)
     subst this
     exact run_convert_bytes_nil w s el hs hel _ _ t ht
    | some A =>
     rcases Nat.eq_zero_or_pos xs.length with g | g
     ·have : xs = [] := List.eq_nil_of_length_eq_zero g
      subst this
      rw [f2]
      rw [run_convert_bytes_string w s t el (some A) _ cp hs hel ht]
      simp [Conv.bytesToString, loadCells, strOfNums]
      rfl
     ·obtain ⟨b, off, g1, g2, g3⟩ := e3 0 (by simpa using g)
      cases g1
      rw [f2]
      exact run_convert_bytes_arg w s el hs hel b off xs.length cp xs rfl (fun i hi => by
       obtain ⟨b', off', k1, k2, k3⟩ := e3 i (by simpa using hi)
       cases k1
       rw [k3]
       simp [List.getElem?_map, hi, List.getD]) t ht
   simp [execOp, hop, hrun]
  ·cases he
 ·obtain ⟨h1, v, h2, h3⟩ := effPlain_sound h hl he
  exact sound_pure h ho hd h1 h2 h3
theorem Rel.app (h : Rel V X Z w0 N ρ ok lt lb a w) (d : Option Nat) (av : AV) (v : Value) (hd : ∀ k, d = some k → k < N) (k q : Key) (hk : ¬ ok k) {box0 : Box} (hq : lb q = some box0) (l0 : box0.live = true) (hd' : Hd) (box : Box) (hk' : ok' k) (ho : ∀ q : Key, ok q → ok' q)
    (hg : ∀ b, hd'.g = some b → b < w'.heap.size ∧ (w.heap.size ≤ b ∨ (ρ q).g = some b))
    (hw : Keep (fun b => hd'.g ≠ some b) w w')
    (hv : AVRel (CRel (Im V (updR ρ k hd') (updB lb [(k, some box), (q, none)])) (updR ρ k hd') ok' w') av v)
    (hB : (∀ b, b < w.heap.size → Im V ρ lb b → Im V (updR ρ k hd') (updB lb [(k, some box), (q, none)]) b) → Keep (Im V (updR ρ k hd') (updB lb [(k, some box), (q, none)])) w w' → BoxRel (Im V (updR ρ k hd') (updB lb [(k, some box), (q, none)])) (updR ρ k hd') ok' w' k box) (hl : box.live = true) :
    Rel V X Z w0 N (updR ρ k hd') ok' (updT lt d av) (updB lb [(k, some box), (q, none)]) (a.put d v) w' := by
 have hbb : ∀ q' : Key, updB lb [(k, some box), (q, none)] q' = if q' = k then some box else if q' = q then none else lb q' := fun q' => by
  rw [updB_cons, updB_one, updB_one]
 have hqk : q ≠ k := fun e => hk (e ▸ (h.bx q _ hq).1)
 have hs : ∀ b, b < w.heap.size → Im V ρ lb b → Im V (updR ρ k hd') (updB lb [(k, some box), (q, none)]) b := by
  intro b hb hi
  refine ⟨hi.1, fun q' box' hq' hl' => ?_⟩
  rw [hbb] at hq'
  unfold updR
  by_cases e : q' = k
  ·rw [if_pos e]
   intro hh
   rcases (hg b hh).2 with h1 | h1
   ·omega
   ·exact hi.2 q box0 hq l0 h1
  ·rw [if_neg e] at hq' ⊢
   by_cases e2 : q' = q
   ·rw [if_pos e2] at hq'; cases hq'
   ·rw [if_neg e2] at hq'
    exact hi.2 q' box' hq' hl'
 have hkk : Keep (Im V (updR ρ k hd') (updB lb [(k, some box), (q, none)])) w w' := hw.mono fun b _ hi hh => hi.2 k box (by rw [hbb, if_pos rfl]) hl (by rw [updR_same]; exact hh)
 refine h.step d av v hd hkk hs (updR_old hk _) ho hv (fun q' box' hq' => ?_) (fun q1 b1 q2 b2 b e1 l1 e2 l2 g1 g2 => ?_) (fun q' box' b hq' hl' hgb => ?_) ?_
 ·rw [hbb] at hq'
  by_cases e : q' = k
  ·subst e
   rw [if_pos rfl] at hq'
   cases hq'
   exact .inr ⟨hk', hB hs hkk⟩
  ·rw [if_neg e] at hq'
   by_cases e2 : q' = q
   ·rw [if_pos e2] at hq'; cases hq'
   ·rw [if_neg e2] at hq'
    refine .inl ⟨hq', fun hl' b hb => hw.block b (h.lo q' box' b hq' hl' hb).1 (fun hh => ?_)⟩
    have h1 := (h.lo q' box' b hq' hl' hb).1
    rcases (hg b hh).2 with h2 | h2
    ·omega
    ·exact e2 (h.ap q' box' q box0 b hq' hl' hq l0 hb h2)
 ·have key : ∀ q1 b1 q2 b2, updB lb [(k, some box), (q, none)] q1 = some b1 → b1.live = true → updB lb [(k, some box), (q, none)] q2 = some b2 → b2.live = true → (updR ρ k hd' q1).g = some b → (updR ρ k hd' q2).g = some b → q1 = k → q2 = k := by
    intro q1 b1 q2 b2 e1 l1 e2 l2 g1 g2 c1
    by_cases c2 : q2 = k
    ·exact c2
    ·exfalso
     rw [hbb, if_neg c2] at e2
     by_cases c3 : q2 = q
     ·rw [if_pos c3] at e2; cases e2
     ·rw [if_neg c3] at e2
      unfold updR at g1 g2
      rw [if_pos c1] at g1
      rw [if_neg c2] at g2
      have h1 := (h.lo q2 b2 b e2 l2 g2).1
      rcases (hg b g1).2 with h2 | h2
      ·omega
      ·exact c3 (h.ap q2 b2 q box0 b e2 l2 hq l0 g2 h2)
  by_cases c1 : q1 = k
  ·rw [c1, key q1 b1 q2 b2 e1 l1 e2 l2 g1 g2 c1]
  ·by_cases c2 : q2 = k
   ·exact absurd (key q2 b2 q1 b1 e2 l2 e1 l1 g2 g1 c2) c1
   ·rw [hbb, if_neg c1] at e1
    rw [hbb, if_neg c2] at e2
    by_cases c3 : q1 = q
    ·rw [if_pos c3] at e1; cases e1
    ·by_cases c4 : q2 = q
     ·rw [if_pos c4] at e2; cases e2
     ·rw [if_neg c3] at e1
      rw [if_neg c4] at e2
      unfold updR at g1 g2
      rw [if_neg c1] at g1
      rw [if_neg c2] at g2
      exact h.ap q1 b1 q2 b2 b e1 l1 e2 l2 g1 g2
 ·rw [hbb] at hq'
  unfold updR at hgb
  by_cases e : q' = k
  ·rw [if_pos e] at hgb
   have h1 := hg b hgb
   refine ⟨h1.1, ?_⟩
   rcases h1.2 with h2 | h2
   ·exact .inl (Nat.le_trans h.fr.size h2)
   ·exact (h.lo q box0 b hq l0 h2).2
  ·rw [if_neg e] at hq' hgb
   by_cases e2 : q' = q
   ·rw [if_pos e2] at hq'; cases hq'
   ·rw [if_neg e2] at hq'
    have := h.lo q' box' b hq' hl' hgb
    exact ⟨Nat.lt_of_lt_of_le this.1 hw.size, this.2⟩
 ·refine Keep.out h (hw.mono fun b hb hi hh => ?_)
  rcases (hg b hh).2 with h2 | h2
  ·omega
  ·exact hi q box0 hq l0 h2
theorem flat_take {α : Type} {sz : Nat} : ∀ {rows : List (List α)}, (∀ (i : Nat) (row : List α), rows[i]? = some row → row.length = sz) → ∀ h : Nat, rows.flatten.take (h * sz) = (rows.take h).flatten
 | [], _, h => by simp
 | r :: rows, hl, 0 => by simp
 | r :: rows, hl, h + 1 => by
  have h0 : r.length = sz := hl 0 r (by simp)
  rw [List.flatten_cons, List.take_append, List.take_of_length_le (by rw [h0, Nat.succ_mul]; omega), h0, show (h + 1) * sz - sz = h * sz by rw [Nat.succ_mul]; omega, flat_take (fun k row hk => hl (k + 1) row (by simpa using hk)) h]
  simp
theorem effSliceO_sound (h : Rel V X Z w0 N ρ ok lt lb a w) (ho : ∀ q : Key, ok q → ok' q) (hd : ∀ k, o.dst = some k → k < N) (hl : ∀ t x, lt' t = some x → lt t = some x) (hb : ∀ t x, lb' t = some x → lb t = some x) {key : Nat → Key} (hk : ¬ ok (key 0)) (hk' : ok' (key 0))
    {t : TypeId} {x : Operand} {lo hi mx : Option Operand} (hop : o.op = .slice t x lo hi mx) (he : effSliceO P key t x lo hi mx lt' lb' = some e) : o.wp P a w (Aft V X Z w0 N ok' lt lb o.dst e) Q := by
 unfold effSliceO at he
 split at he
 ·rename_i el q hu hx
  split at he
  ·rename_i ty sz rows s hlo hq hsz
   split at he
   ·rename_i hh hhi
    split at he
    ·rename_i hc
     obtain ⟨rfl, c1, c2⟩ := hc
     obtain ⟨av, hx1, hx2⟩ := Option.bind_eq_some_iff.1 hx
     obtain ⟨hok, hv⟩ := slot1_sound hx2 (ev_sound h hl hx1)
     obtain ⟨n1, n2, n3, n4, n5, n6⟩ := (h.bx q _ (hb _ _ hq)).2
     have hb1 : (Instr.sliceBounds true (ρ q).n (ρ q).cap (lo.map a.eval) (hi.map a.eval) none).run P w = .ok (0, hh.toNat, (ρ q).cap) w := by
      have e1 : 0 ≤ hh ∧ hh ≤ ((ρ q).cap : Int) := ⟨c1, by omega⟩
      cases lo with
      | none =>
       cases hi with
       | none =>
        have e0 : hh = (rows.length : Int) := by simp [bound] at hhi; exact hhi.symm
        subst e0
        simp [Instr.sliceBounds, n1]
       | some hx =>
        obtain ⟨k, hk⟩ := intV_sound h hl hhi
        simp [Instr.sliceBounds, hk, Instr.sliceBound, asIntOf, e1]
      | some lx =>
       obtain ⟨k0, hk0⟩ := intV_sound h hl hlo
       cases hi with
       | none =>
        have e0 : hh = (rows.length : Int) := by simp [bound] at hhi; exact hhi.symm
        subst e0
        simp [Instr.sliceBounds, hk0, Instr.sliceBound, asIntOf, n1]
       | some hx =>
        obtain ⟨k, hk⟩ := intV_sound h hl hhi
        simp [Instr.sliceBounds, hk0, hk, Instr.sliceBound, asIntOf, e1]
     have hrun : (execOp a.eval o).run P w = .ok (.value (.slice (ρ q).A hh.toNat (ρ q).cap)) w := by
      have hA : (if (ρ q).cap = 0 then (ρ q).A else (ρ q).A.map (·.add (0 * s))) = (ρ q).A := by
       rcases n6 with ⟨_, _, y3⟩ | ⟨b, vs, sp, y1, y2, _⟩
       ·rw [if_pos y3]
       ·rw [y2]; simp [Addr.add_lit]
      simp only [Nat.zero_mul] at hA
      simp [execOp, hop, Instr.sliceAt, Instr.slice, run_underlying hu, hv, hb1, size_run hsz, hA]
     split at he
     ·rename_i hlen
      cases he
      refine sound_pure h ho hd rfl hrun (one1 ⟨hok, ?_⟩)
      rw [n1, hlen]; rfl
     ·rename_i hlen
      cases he
      rcases n6 with ⟨_, rfl, _⟩ | ⟨b, vs, sp, y1, y2, y3, y4, y5⟩
      ·simp at c2; omega
      ·have hvl := y4.length
       rw [List.length_map, flat_len n5] at hvl
       have hle : hh.toNat ≤ rows.length := by omega
       have hmul : hh.toNat * s ≤ rows.length * s := Nat.mul_le_mul_right _ hle
       refine wp_val hrun ⟨_, h.app (hd' := ⟨(ρ q).A, some b, hh.toNat, (ρ q).cap, s⟩) o.dst _ _ hd (key 0) q hk (hb _ _ hq) rfl (.sl ty s (rows.take hh.toNat)) hk' ho (fun b' hb' => by cases hb'; exact ⟨y3.lt, .inr y1⟩) (Keep.refl _ _) (one1 ⟨hk', by rw [updR_same]⟩) (fun hs hkk => ?_) rfl⟩
       simp only [BoxRel]
       rw [updR_same]
       have hml : (rows.take hh.toNat).length = hh.toNat := by rw [List.length_take, Nat.min_eq_left hle]
       have hcl : hh.toNat ≤ (ρ q).cap := Nat.le_trans hle n3
       have hbl : hh.toNat ≤ 4611686018427387904 := Nat.le_trans hle n4
       refine ⟨hml.symm, rfl, by rw [hml]; exact hcl, by rw [hml]; exact hbl, fun i row hi => ?_, .inr ⟨b, vs.take (hh.toNat * s), vs.drop (hh.toNat * s) ++ sp, rfl, y2, by rw [← List.append_assoc, List.take_append_drop]; exact y3, ?_, ?_⟩⟩
       ·rw [List.getElem?_take] at hi
        split at hi
        ·exact n5 i row hi
        ·cases hi
       ·rw [← flat_take n5, List.map_take]
        exact (y4.take _).imp fun cc v _ hcc => hcc.keep hkk hs (updR_old hk _) ho
       ·have hcs : rows.length * s ≤ (ρ q).cap * s := Nat.mul_le_mul_right _ n3
        rw [List.length_append, List.length_drop, y5, hml, ← hvl, Nat.sub_mul, Nat.sub_mul]
        show rows.length * s - hh.toNat * s + ((ρ q).cap * s - rows.length * s) = (ρ q).cap * s - hh.toNat * s
        generalize rows.length * s = A1 at *
        generalize hh.toNat * s = A2 at *
        generalize (ρ q).cap * s = A3 at *
        omega
    ·cases he
   ·cases he
  ·cases he
 ·cases he
theorem app_fin (h : Rel V X Z w0 N ρ ok lt lb a w) (ho : ∀ q : Key, ok q → ok' q) (hd : ∀ k, o.dst = some k → k < N) {key : Nat → Key} (hk : ¬ ok (key 0)) (hk' : ok' (key 0))
    {t tx : TypeId} {s x : Operand} (hop : o.op = .call { callee := .builtin .append, args := #[s, x], argTypes := #[t, tx] }) {el : TypeId} {ie : TypeInfo} {z xv : Value} (hu : P.underlying t = some (.slice el)) (hie : P.info? el = some ie) (hz : ie.zero = some z) (hc : z.cells.size = ie.size ∧ 0 < ie.size)
    {new : List (List C)} {us : List Value} (x1 : a.eval x = xv) (x4 : All2 (CRel (Im V ρ lb) ρ ok w) new.flatten us) (x6 : ∀ (i : Nat) (row : List C), new[i]? = some row → row.length = ie.size) (hsrc : Src P ie.size tx xv new.length us w)
    (A : Option Addr) (m c : Nat) (rows : List (List C)) (olds : List Value) (lbq : Option (Key × Box)) (box : Box) (hmk : ∀ (S : Nat → Prop) (ρ : Key → Hd) (ok : Key → Prop) (w : World) (q : Key), BoxRel S ρ ok w q (.ca el ie.size (rows ++ new)) → BoxRel S ρ ok w q box) (hbl : box.live = true)
    (hsv : a.eval s = .slice A m c) (hm : m = rows.length) (hOwn : Own 0 w el ie.size A m c olds) (hold : All2 (CRel (Im V ρ lb) ρ ok w) rows.flatten olds)
    (hrl : ∀ (i : Nat) (row : List C), rows[i]? = some row → row.length = ie.size) (hb1 : (rows.length + new.length) * ie.bytes ≤ 140737488355328) (hb2 : rows.length + new.length ≤ 4611686018427387904)
    (hlbq : match lbq with
     | none => m = 0 ∧ c = 0
     | some (q, b0) => lb q = some b0 ∧ b0.live = true ∧ (ρ q).A = A ∧ (ρ q).n = m ∧ (ρ q).cap = c ∧ (ρ q).sz = ie.size ∧ ((ρ q).g = none ∧ rows = [] ∧ c = 0 ∨ ∃ b sp, (ρ q).g = some b ∧ A = some ⟨b, 0, none⟩ ∧ Blk w b el (olds ++ sp).toArray ∧ sp.length = (c - m) * ie.size))
    (hee : e = { av := .one false [.own (key 0)], up := (key 0, some box) :: (match lbq with | none => [] | some (q, _) => [(q, none)]) }) : o.wp P a w (Aft V X Z w0 N ok' lt lb o.dst e) Q := by
 subst hm
 obtain ⟨A', c', w', hrun, hres⟩ := run_own3 (P := P) t tx o.type el ie z hu hie hz hc.1 A rows.length c olds hOwn xv new.length us hsrc hb1 hb2
 have hrows' : ∀ (i : Nat) (row : List C), (rows ++ new)[i]? = some row → row.length = ie.size := by
  intro i row hi
  rw [List.getElem?_append] at hi
  split at hi
  ·exact hrl _ _ hi
  ·exact x6 _ _ hi
 have hopr : (execOp a.eval o).run P w = .ok (.value (.slice A' (rows.length + new.length) c')) w' := by
  simp [execOp, hop, resolve, invoke, builtin, hsv, x1, hrun]
 have hall : All2 (CRel (Im V ρ lb) ρ ok w) (rows ++ new).flatten (olds ++ us) := by rw [List.flatten_append]; exact hold.append x4
 subst hee
 cases lbq with
 | none =>
  obtain ⟨hm0, rfl⟩ := hlbq
  have hr0 : rows = [] := List.length_eq_zero_iff.1 hm0
  subst hr0
  rcases hres with ⟨hn0, rfl, rfl, rfl⟩ | ⟨g, sp, hn, rfl, hcap, hB, hsp, hw, hloc⟩
  ·have hnn : new = [] := List.length_eq_zero_iff.1 hn0
   subst hnn
   refine wp_val hopr ⟨_, h.new (hd' := ⟨A', none, 0, 0, ie.size⟩) o.dst _ _ hd (key 0) hk _ (fun b hb => by cases hb) hk' ho (Keep.refl _ _) (one1 ⟨hk', by rw [updR_same]; simp⟩) ?_⟩
   refine hmk _ _ _ _ _ ?_
   simp only [BoxRel]
   rw [updR_same]
   exact ⟨by simp, rfl, by simp, by simp, by simp, .inl ⟨rfl, by simp, rfl⟩⟩
  ·have hgn : w.heap.size ≤ g := by
     rcases hloc with h1 | h1
     ·exact h1
     ·omega
   have hwb : Keep (fun b => b < w.heap.size) w w' := hw.mono fun b hb hb2 e => by omega
   refine wp_val hopr ⟨_, h.new (hd' := ⟨some ⟨g, 0, none⟩, some g, ([] : List (List C)).length + new.length, c', ie.size⟩) o.dst _ _ hd (key 0) hk _ (fun b hb => by cases hb; exact ⟨hgn, hB.lt⟩) hk' ho hwb (one1 ⟨hk', by rw [updR_same]⟩) ?_⟩
   refine hmk _ _ _ _ _ ?_
   simp only [BoxRel]
   rw [updR_same]
   refine ⟨by simp, rfl, by simpa using hcap, by simpa using hb2, hrows', .inr ⟨g, olds ++ us, sp, rfl, rfl, hB, ?_, by simpa using hsp⟩⟩
   exact hall.imp fun cc v _ hcc => hcc.keep (hwb.mono fun b hb _ => hb) (im_new h hk (fun b hb => by cases hb; exact hgn)) (updR_old hk _) ho
 | some p =>
  obtain ⟨q, b0⟩ := p
  obtain ⟨hq, hl0, r1, r2, r3, r4, r5⟩ := hlbq
  rcases hres with ⟨hn0, rfl, rfl, rfl⟩ | ⟨g, sp, hn, rfl, hcap, hB, hsp, hw, hloc⟩
  ·have hnn : new = [] := List.length_eq_zero_iff.1 hn0
   subst hnn
   refine wp_val hopr ⟨_, h.app (hd' := ⟨A', (ρ q).g, rows.length, c', ie.size⟩) o.dst _ _ hd (key 0) q hk hq hl0 _ hk' ho (fun b hb => ⟨(h.lo q b0 b hq hl0 hb).1, .inr hb⟩) (Keep.refl _ _) (one1 ⟨hk', by rw [updR_same]; simp⟩) (fun hs hkk => ?_) hbl⟩
   refine hmk _ _ _ _ _ ?_
   simp only [BoxRel]
   rw [updR_same]
   rcases r5 with ⟨y1, rfl, rfl⟩ | ⟨b, sp, y1, y2, y3, y4⟩
   ·exact ⟨by simp, rfl, by simp, by simp, by simp, .inl ⟨y1, by simp, rfl⟩⟩
   ·refine ⟨by simp, rfl, by simpa using hOwn.1, by simpa using hb2, by simpa using hrl, .inr ⟨b, olds, sp, y1, y2, y3, ?_, by simpa using y4⟩⟩
    rw [show (rows ++ ([] : List (List C))).flatten = rows.flatten by simp]
    exact hold.imp fun cc v _ hcc => hcc.keep hkk hs (updR_old hk _) ho
  ·have hgl : w.heap.size ≤ g ∨ (ρ q).g = some g := by
     rcases hloc with h1 | ⟨h1, h2⟩
     ·exact .inl h1
     ·rcases r5 with ⟨y1, y2, y3⟩ | ⟨b, sp', y1, y2, y3, y4⟩
      ·omega
      ·rw [h1] at y2; cases y2; exact .inr y1
   refine wp_val hopr ⟨_, h.app (hd' := ⟨some ⟨g, 0, none⟩, some g, rows.length + new.length, c', ie.size⟩) o.dst _ _ hd (key 0) q hk hq hl0 _ hk' ho (fun b hb => by cases hb; exact ⟨hB.lt, hgl⟩) (hw.mono fun b _ hb e => hb (by rw [e])) (one1 ⟨hk', by rw [updR_same]⟩) (fun hs hkk => ?_) hbl⟩
   refine hmk _ _ _ _ _ ?_
   simp only [BoxRel]
   rw [updR_same]
   refine ⟨by simp, rfl, by simpa using hcap, by simpa using hb2, hrows', .inr ⟨g, olds ++ us, sp, rfl, rfl, hB, ?_, by simpa using hsp⟩⟩
   exact hall.imp fun cc v _ hcc => hcc.keep hkk hs (updR_old hk _) ho
theorem sl_ca {S : Nat → Prop} {ρ : Key → Hd} {ok : Key → Prop} {w : World} {q : Key} {ty : TypeId} {sz : Nat} {rows : List (List D)} {rows' : List (List C)} (e : rows' = rows.map (·.map C.d)) (h : BoxRel S ρ ok w q (.ca ty sz rows')) : BoxRel S ρ ok w q (.sl ty sz rows) := by
 subst e
 obtain ⟨h1, h2, h3, h4, h5, h6⟩ := h
 rw [List.length_map] at h1 h3 h4
 refine ⟨h1, h2, h3, h4, fun i row hi => ?_, ?_⟩
 ·have := h5 i (row.map C.d) (by rw [List.getElem?_map, hi]; rfl)
  simpa using this
 ·rcases h6 with ⟨y1, y2, y3⟩ | ⟨b, vs, sp, g1, g2, g3, g4, g5⟩
  ·exact .inl ⟨y1, by simpa using y2, y3⟩
  ·rw [List.length_map] at g5
   rw [← List.map_flatten] at g4
   exact .inr ⟨b, vs, sp, g1, g2, g3, g4, g5⟩
theorem app_data (h : Rel V X Z w0 N ρ ok lt lb a w) (ho : ∀ q : Key, ok q → ok' q) (hd : ∀ k, o.dst = some k → k < N) (hb : ∀ t x, lb' t = some x → lb t = some x) {key : Nat → Key} (hk : ¬ ok (key 0)) (hk' : ok' (key 0))
    {t tx : TypeId} {s x : Operand} (hop : o.op = .call { callee := .builtin .append, args := #[s, x], argTypes := #[t, tx] }) {el : TypeId} {ie : TypeInfo} {z xv : Value} (hu : P.underlying t = some (.slice el)) (hie : P.info? el = some ie) (hz : ie.zero = some z) (hc : z.cells.size = ie.size ∧ 0 < ie.size)
    {new : List (List D)} {us : List Value} (x1 : a.eval x = xv) (x4 : All2 (CRel (Im V ρ lb) ρ ok w) (new.flatten.map .d) us) (x6 : ∀ (i : Nat) (row : List D), new[i]? = some row → row.length = ie.size) (hsrc : Src P ie.size tx xv new.length us w)
    {cs : C} (hvs : CRel (Im V ρ lb) ρ ok w cs (a.eval s))
    (he : cs = .zero ∧ (new.length * ie.bytes ≤ 140737488355328 ∧ new.length ≤ 4611686018427387904) ∧ e = { av := .one false [.own (key 0)], up := [(key 0, some (.sl el ie.size new))] } ∨
     ∃ q rows, cs = .own q ∧ lb' q = some (.sl el ie.size rows) ∧ ((rows.length + new.length) * ie.bytes ≤ 140737488355328 ∧ rows.length + new.length ≤ 4611686018427387904) ∧ e = { av := .one false [.own (key 0)], up := [(key 0, some (.sl el ie.size (rows ++ new))), (q, none)] }) : o.wp P a w (Aft V X Z w0 N ok' lt lb o.dst e) Q := by
 have y6 : ∀ (i : Nat) (row : List C), (new.map (·.map C.d))[i]? = some row → row.length = ie.size := fun i row hi => by
  rw [List.getElem?_map] at hi
  obtain ⟨r, h1, rfl⟩ := Option.map_eq_some_iff.1 hi
  rw [List.length_map]; exact x6 i r h1
 have y4 : All2 (CRel (Im V ρ lb) ρ ok w) (new.map (·.map C.d)).flatten us := by rw [← List.map_flatten]; exact x4
 have ysrc : Src P ie.size tx xv (new.map (·.map C.d)).length us w := by rw [List.length_map]; exact hsrc
 rcases he with ⟨rfl, hcc, rfl⟩ | ⟨q, rows, rfl, hq, hcc, rfl⟩
 ·obtain ⟨A, hA⟩ := hvs
  exact app_fin h ho hd hk hk' hop hu hie hz hc x1 y4 y6 ysrc A 0 0 [] [] none (.sl el ie.size new) (fun _ _ _ _ _ hB => sl_ca (by simp) hB) rfl hA rfl (Own.nil _ _ _ _ _) .nil (by simp) (by simpa using hcc.1) (by simpa using hcc.2) ⟨rfl, rfl⟩ rfl
 ·obtain ⟨n1, n2, n3, n4, n5, n6⟩ := (h.bx q _ (hb _ _ hq)).2
  obtain ⟨hok, hsv⟩ := hvs
  rw [n1] at hsv
  rcases n6 with ⟨y1, rfl, y3⟩ | ⟨b, vs, sp, y1, y2, y3, y4', y5⟩
  ·exact app_fin h ho hd hk hk' hop hu hie hz hc x1 y4 y6 ysrc (ρ q).A 0 (ρ q).cap [] [] (some (q, .sl el ie.size [])) (.sl el ie.size ([] ++ new)) (fun _ _ _ _ _ hB => sl_ca (by simp) hB) rfl hsv rfl (by rw [y3]; exact Own.nil _ _ _ _ _) .nil (by simp) (by simpa using hcc.1) (by simpa using hcc.2) ⟨hb _ _ hq, rfl, rfl, n1, rfl, n2, .inl ⟨y1, rfl, y3⟩⟩ rfl
  ·have hvl := y4'.length
   rw [List.length_map, flat_len n5] at hvl
   refine app_fin h ho hd hk hk' hop hu hie hz hc x1 y4 y6 ysrc (ρ q).A rows.length (ρ q).cap (rows.map (·.map C.d)) vs (some (q, .sl el ie.size rows)) (.sl el ie.size (rows ++ new)) (fun _ _ _ _ _ hB => sl_ca (by simp) hB) rfl hsv (by simp) ⟨n3, hvl.symm, .inr ⟨b, sp, y2, Nat.zero_le _, y5, y3⟩⟩ (by rw [← List.map_flatten]; exact y4') (fun i row hi => ?_) (by simpa using hcc.1) (by simpa using hcc.2) ⟨hb _ _ hq, rfl, rfl, n1, rfl, n2, .inr ⟨b, sp, y1, y2, y3, y5⟩⟩ rfl
   rw [List.getElem?_map] at hi
   obtain ⟨r, h1, rfl⟩ := Option.map_eq_some_iff.1 hi
   rw [List.length_map]; exact n5 i r h1
theorem effAppend0_sound (h : Rel V X Z w0 N ρ ok lt lb a w) (ho : ∀ q : Key, ok q → ok' q) (hd : ∀ k, o.dst = some k → k < N) (hl : ∀ t x, lt' t = some x → lt t = some x) (hb : ∀ t x, lb' t = some x → lb t = some x) {key : Nat → Key} (hk : ¬ ok (key 0)) (hk' : ok' (key 0))
    {t tx : TypeId} {s x : Operand} (hop : o.op = .call { callee := .builtin .append, args := #[s, x], argTypes := #[t, tx] }) (he : effAppend0 P key t tx s x lt' lb' = some e) : o.wp P a w (Aft V X Z w0 N ok' lt lb o.dst e) Q := by
 unfold effAppend0 at he
 split at he
 ·rename_i el el2 cs cx hu hux hcs hcx
  split at he
  ·rename_i ie hie
   split at he
   ·rename_i z hz
    split at he
    ·rename_i hc
     split at he
     ·rename_i new hnew
      obtain ⟨avs, es1, es2⟩ := Option.bind_eq_some_iff.1 hcs
      obtain ⟨avx, ex1, ex2⟩ := Option.bind_eq_some_iff.1 hcx
      have hvs := slot1_sound es2 (ev_sound h hl es1)
      have hvx := slot1_sound ex2 (ev_sound h hl ex1)
      obtain ⟨Ax, cpx, us, x1, x2, x3, x4, x5, x6⟩ := look_sound h hb hc.2 hnew hvx
      have hsrc : Src P ie.size tx (.slice Ax new.length cpx) new.length us w := src_cells hux x3 x2 x5 x4.ones
      refine app_data h ho hd hb hk hk' hop hu hie hz hc x1 x4 x6 hsrc hvs ?_
      split at he
      ·split at he
       ·rename_i hcc
        cases he
        exact .inl ⟨rfl, hcc, rfl⟩
       ·cases he
      ·rename_i q
       split at he
       ·rename_i e' sz rows hq
        split at he
        ·rename_i hcc
         obtain ⟨rfl, rfl, c1, c2⟩ := hcc
         cases he
         exact .inr ⟨q, rows, rfl, hq, ⟨c1, c2⟩, rfl⟩
        ·cases he
       ·cases he
      ·cases he
     ·cases he
    ·cases he
   ·cases he
  ·cases he
 ·cases he
theorem effAppendC_sound (h : Rel V X Z w0 N ρ ok lt lb a w) (ho : ∀ q : Key, ok q → ok' q) (hd : ∀ k, o.dst = some k → k < N) (hl : ∀ t x, lt' t = some x → lt t = some x) (hb : ∀ t x, lb' t = some x → lb t = some x) {key : Nat → Key} (hk : ¬ ok (key 0)) (hk' : ok' (key 0))
    {t tx : TypeId} {s x : Operand} (hop : o.op = .call { callee := .builtin .append, args := #[s, x], argTypes := #[t, tx] }) (he : effAppendC P key t tx s x lt' lb' = some e) : o.wp P a w (Aft V X Z w0 N ok' lt lb o.dst e) Q := by
 unfold effAppendC at he
 split at he
 ·rename_i el el2 cs qx hu hux hcs hcx
  split at he
  ·rename_i ie tyx szx new hie hqx
   split at he
   ·rename_i z hz
    split at he
    ·rename_i hc
     obtain ⟨hc1, hc2, rfl⟩ := hc
     obtain ⟨avs, es1, es2⟩ := Option.bind_eq_some_iff.1 hcs
     obtain ⟨avx, ex1, ex2⟩ := Option.bind_eq_some_iff.1 hcx
     have hvs := slot1_sound es2 (ev_sound h hl es1)
     have hvx := slot1_sound ex2 (ev_sound h hl ex1)
     have hc : z.cells.size = ie.size ∧ 0 < ie.size := ⟨hc1, hc2⟩
     obtain ⟨Ax, cpx, us, x1, x2, x3, x4, x5, x6⟩ : ∃ A cp us, a.eval x = .slice A new.length cp ∧ us.length = new.length * ie.size ∧ Cells w A us ∧ All2 (CRel (Im V ρ lb) ρ ok w) new.flatten us ∧ (A = none → new.length = 0) ∧ (∀ (i : Nat) (row : List C), new[i]? = some row → row.length = ie.size) := by
      obtain ⟨n1, n2, n3, n4, n5, n6⟩ := (h.bx qx _ (hb _ _ hqx)).2
      obtain ⟨_, hsv⟩ := hvx
      rw [n1] at hsv
      rcases n6 with ⟨y1, rfl, y3⟩ | ⟨b, vs, sp, y1, y2, y3, y4, y5⟩
      ·exact ⟨_, _, [], hsv, by simp, Cells.nil, .nil, fun _ => rfl, by simp⟩
      ·have hvl := y4.length
       rw [flat_len n5] at hvl
       refine ⟨_, _, vs, hsv, hvl.symm, fun j hj => ⟨b, 0, y2, y3.lt, ?_⟩, y4, (fun e => by rw [y2] at e; cases e), n5⟩
       rw [y3.cell]
       simp [List.getElem?_append_left hj, List.getElem?_eq_getElem hj]
     have hsrc : Src P ie.size tx (.slice Ax new.length cpx) new.length us w := src_cells hux x3 x2 x5 x4.ones
     split at he
     ·split at he
      ·rename_i hcc
       obtain ⟨A, hA⟩ := hvs
       exact app_fin h ho hd hk hk' hop hu hie hz hc x1 x4 x6 hsrc A 0 0 [] [] none _ (fun _ _ _ _ _ hB => hB) rfl hA rfl (Own.nil _ _ _ _ _) .nil (by simp) (by simpa using hcc.1) (by simpa using hcc.2) ⟨rfl, rfl⟩ (by cases he; simp)
      ·cases he
     ·rename_i q
      split at he
      ·rename_i e' sz rows hq
       split at he
       ·rename_i hcc
        obtain ⟨rfl, rfl, c1, c2⟩ := hcc
        obtain ⟨n1, n2, n3, n4, n5, n6⟩ := (h.bx q _ (hb _ _ hq)).2
        obtain ⟨hok, hsv⟩ := hvs
        rw [n1] at hsv
        rcases n6 with ⟨y1, rfl, y3⟩ | ⟨b, vs, sp, y1, y2, y3, y4, y5⟩
        ·exact app_fin h ho hd hk hk' hop hu hie hz hc x1 x4 x6 hsrc (ρ q).A 0 (ρ q).cap [] [] (some (q, .ca e' ie.size [])) _ (fun _ _ _ _ _ hB => hB) rfl hsv rfl (by rw [y3]; exact Own.nil _ _ _ _ _) .nil (by simp) c1 c2 ⟨hb _ _ hq, rfl, rfl, n1, rfl, n2, .inl ⟨y1, rfl, y3⟩⟩ (by cases he; rfl)
        ·have hvl := y4.length
         rw [flat_len n5] at hvl
         exact app_fin h ho hd hk hk' hop hu hie hz hc x1 x4 x6 hsrc (ρ q).A rows.length (ρ q).cap rows vs (some (q, .ca e' ie.size rows)) _ (fun _ _ _ _ _ hB => hB) rfl hsv rfl ⟨n3, hvl.symm, .inr ⟨b, sp, y2, Nat.zero_le _, y5, y3⟩⟩ y4 n5 c1 c2 ⟨hb _ _ hq, rfl, rfl, n1, rfl, n2, .inr ⟨b, sp, y1, y2, y3, y5⟩⟩ (by cases he; rfl)
       ·cases he
      ·cases he
     ·cases he
    ·cases he
   ·cases he
  ·cases he
 ·cases he
theorem effAppendS_sound (h : Rel V X Z w0 N ρ ok lt lb a w) (ho : ∀ q : Key, ok q → ok' q) (hd : ∀ k, o.dst = some k → k < N) (hl : ∀ t x, lt' t = some x → lt t = some x) (hb : ∀ t x, lb' t = some x → lb t = some x) {key : Nat → Key} (hk : ¬ ok (key 0)) (hk' : ok' (key 0))
    {t tx : TypeId} {s x : Operand} (hop : o.op = .call { callee := .builtin .append, args := #[s, x], argTypes := #[t, tx] }) (he : effAppendS P key t tx s x lt' lb' = some e) : o.wp P a w (Aft V X Z w0 N ok' lt lb o.dst e) Q := by
 unfold effAppendS at he
 split at he
 ·rename_i el cs b hu hux hcs hcx
  split at he
  ·rename_i ie hie
   split at he
   ·rename_i z hz
    split at he
    ·rename_i hc
     obtain ⟨hc1, hc2⟩ := hc
     obtain ⟨avs, es1, es2⟩ := Option.bind_eq_some_iff.1 hcs
     obtain ⟨avx, ex1, ex2⟩ := Option.bind_eq_some_iff.1 hcx
     have hvs := slot1_sound es2 (ev_sound h hl es1)
     have hvx : a.eval x = .string b := conV_sound ex2 (ev_sound h hl ex1)
     have hln : (byteRows b).length = b.size := by unfold byteRows; rw [List.length_map, byteCells_length]
     have hfl : ∀ l : List Value, ((l.map fun v => [D.v v]).flatten.map C.d) = l.map fun v => C.d (.v v) := fun l => by induction l with | nil => rfl | cons v l ih => simp_all
     have x4 : All2 (CRel (Im V ρ lb) ρ ok w) ((byteRows b).flatten.map .d) (byteCells b) := by
      unfold byteRows
      rw [hfl]
      have : ∀ l : List Value, (∀ v ∈ l, scal v = true) → All2 (CRel (Im V ρ lb) ρ ok w) (l.map fun v => C.d (.v v)) l := fun l => by
       induction l with
       | nil => exact fun _ => .nil
       | cons v l ih => exact fun hh => .cons (.v (hh v (by simp))) (ih fun v hv => hh v (by simp [hv]))
      exact this _ fun v hv => by obtain ⟨_, _, rfl⟩ := List.mem_map.1 hv; rfl
     refine app_data h ho hd hb hk hk' hop hu hie hz (new := byteRows b) (us := byteCells b) ⟨hc1, by omega⟩ hvx x4 (fun i row hi => ?_) (by rw [hln, hc2]; exact Src.ofString w hux b) hvs ?_
     ·unfold byteRows at hi
      rw [List.getElem?_map] at hi
      obtain ⟨v, _, rfl⟩ := Option.map_eq_some_iff.1 hi
      rw [hc2]; rfl
     ·rw [hln, hc2]
      split at he
      ·split at he
       ·rename_i hcc
        cases he
        exact .inl ⟨rfl, hcc, rfl⟩
       ·cases he
      ·rename_i q
       split at he
       ·rename_i e' sz rows hq
        split at he
        ·rename_i hcc
         obtain ⟨rfl, rfl, c1, c2⟩ := hcc
         cases he
         exact .inr ⟨q, rows, rfl, hq, ⟨c1, c2⟩, rfl⟩
        ·cases he
       ·cases he
      ·cases he
    ·cases he
   ·cases he
  ·cases he
 ·cases he
theorem effAppend_sound (h : Rel V X Z w0 N ρ ok lt lb a w) (ho : ∀ q : Key, ok q → ok' q) (hd : ∀ k, o.dst = some k → k < N) (hl : ∀ t x, lt' t = some x → lt t = some x) (hb : ∀ t x, lb' t = some x → lb t = some x) {key : Nat → Key} (hk : ¬ ok (key 0)) (hk' : ok' (key 0))
    {t tx : TypeId} {s x : Operand} (hop : o.op = .call { callee := .builtin .append, args := #[s, x], argTypes := #[t, tx] }) (he : effAppend P key t tx s x lt' lb' = some e) : o.wp P a w (Aft V X Z w0 N ok' lt lb o.dst e) Q := by
 unfold effAppend at he
 split at he
 ·rename_i e0 h0
  cases he
  exact effAppend0_sound h ho hd hl hb hk hk' hop h0
 ·split at he
  ·rename_i e0 h0
   cases he
   exact effAppendC_sound h ho hd hl hb hk hk' hop h0
  ·exact effAppendS_sound h ho hd hl hb hk hk' hop he
end
end Go.Proofs.YtjpdemikmdfonaaGreatDoor
namespace Go.Proofs.YtjpdemikmdfonaaGreatDoor
open Go Go.RowKit
set_option linter.unusedSimpArgs false
set_option linter.unusedVariables false
def OpSound (P : Program) (call : CallF) (lend : FuncId → Bool) : Prop :=
 ∀ {V X : Nat → Prop} {Z : Key → Hd} {w0 w : World} {N : Nat} {ρ : Key → Hd} {ok ok' : Key → Prop} {lt lt' : Nat → Option AV} {lb lb' : Key → Option Box} {a : Act} {o : Oper} {e : Eff} {cur : Nat} {key : Nat → Key} {Q : Exit → Act → World → Prop},
  Rel V X Z w0 N ρ ok lt lb a w → (∀ q : Key, ok q → ok' q) → (∀ k, o.dst = some k → k < N) → (∀ t x, lt' t = some x → lt t = some x) → (∀ t x, lb' t = some x → lb t = some x) →
  (∀ i j, key i = key j → i = j) → (∀ j, j < 64 → ¬ ok (key j) ∧ ok' (key j)) → effOf P call lend cur key o lt' lb' = some e → e.needs = [] → o.wp P a w (Aft V X Z w0 N ok' lt lb o.dst e) Q
theorem onlyT_sub (o : Oper) (lt : Nat → Option AV) (t : Nat) (x : AV) (h : onlyT o lt t = some x) : lt t = some x := by
 unfold onlyT at h
 split at h
 ·exact h
 ·cases h
theorem onlyB_sub (ks : List Key) (lb : Key → Option Box) (k : Key) (x : Box) (h : onlyB ks lb k = some x) : lb k = some x := by
 unfold onlyB at h
 split at h
 ·exact h
 ·cases h
theorem keyAt_inj (i nx : Nat) : ∀ j k, keyAt i nx j = keyAt i nx k → j = k := by
 intro j k h
 simp [keyAt] at h
 omega
structure Rec where
 av : AV
 up : List (Key × Option Box)
 keys : List Key
inductive Run (P : Program) (E : Env) (ops : Array Oper) (nx : Nat) : Nat → List Oper → (Nat → Option AV) → (Key → Option Box) → List Rec → (Nat → Option AV) → (Key → Option Box) → Prop
 | nil {i : Nat} {lt : Nat → Option AV} {lb : Key → Option Box} : Run P E ops nx i [] lt lb [] lt lb
 | op {i : Nat} {o : Oper} {rest : List Oper} {lt lt' : Nat → Option AV} {lb lb' : Key → Option Box} {e : Eff} {rs : List Rec} (hd : ∀ k, o.dst = some k → k < E.N) (hw : wantA ops o lt = some true) (he : effAt P E i o lt lb nx = some e) (hn : e.needs = [])
     (t : Run P E ops nx (i + 1) rest (updT lt o.dst e.av) (updB lb e.up) rs lt' lb') : Run P E ops nx i (o :: rest) lt lb (⟨e.av, e.up, opKeys lt lb o⟩ :: rs) lt' lb'
 | no {i : Nat} {o : Oper} {rest : List Oper} {lt lt' : Nat → Option AV} {lb lb' : Key → Option Box} {rs : List Rec} (hd : ∀ k, o.dst = some k → k < E.N) (hw : wantA ops o lt = some false)
     (t : Run P E ops nx (i + 1) rest (updT lt o.dst .un) lb rs lt' lb') : Run P E ops nx i (o :: rest) lt lb (⟨.un, [], []⟩ :: rs) lt' lb'
theorem lk_filter {β : Type} (tm : List (Nat × β)) (d t : Nat) (h : t ≠ d) : lk (tm.filter (·.1 != d)) t = lk tm t := by
 induction tm with
 | nil => rfl
 | cons p r ih =>
  obtain ⟨k, v⟩ := p
  by_cases hk : k = d
  ·subst hk
   simp only [List.filter_cons, bne_self_eq_false, Bool.false_eq_true, if_false]
   rw [ih]
   unfold lk
   rw [if_neg h]
   cases r <;> rfl
  ·have : (k != d) = true := by simpa using hk
   simp only [List.filter_cons, this, if_true]
   unfold lk
   rw [ih]
theorem lk_setT (d : Option Nat) (av : AV) (tm : List (Nat × AV)) : lk (setT d av tm) = updT (lk tm) d av := by
 funext t
 unfold setT updT
 cases d with
 | none => simp
 | some d =>
  simp only [Option.some.injEq]
  by_cases h : t = d
  ·subst h; simp [lk]
  ·rw [if_neg (fun e => h e.symm)]
   show (if t = d then some av else lk (tm.filter (·.1 != d)) t) = _
   rw [if_neg h, lk_filter tm d t h]
theorem lk_filterK (bx : List (Key × Box)) (d t : Key) : lk (bx.filter (·.1 != d)) t = if t = d then none else lk bx t := by
 induction bx with
 | nil => simp [lk]
 | cons p r ih =>
  obtain ⟨k, v⟩ := p
  by_cases hk : k = d
  ·subst hk
   simp only [List.filter_cons, bne_self_eq_false, Bool.false_eq_true, if_false]
   rw [ih]
   by_cases h : t = k
   ·rw [if_pos h, if_pos h]
   ·rw [if_neg h, if_neg h]
    show _ = (if t = k then some v else lk r t)
    rw [if_neg h]
  ·have : (k != d) = true := by simpa using hk
   simp only [List.filter_cons, this, if_true]
   show (if t = k then some v else lk (r.filter (·.1 != d)) t) = if t = d then none else (if t = k then some v else lk r t)
   rw [ih]
   by_cases h : t = k
   ·subst h; rw [if_pos rfl, if_pos rfl, if_neg hk]
   ·rw [if_neg h, if_neg h]
theorem lk_putB : ∀ (up : List (Key × Option Box)) (bx : List (Key × Box)), lk (putB up bx) = updB (lk bx) up
 | [], bx => rfl
 | (k, some b) :: r, bx => by
  funext q
  show (if q = k then some b else lk ((putB r bx).filter (·.1 != k)) q) = _
  rw [lk_filterK, lk_putB r bx]
  unfold updB
  show _ = match (if q = k then some (some b) else lk r q) with | some ob => ob | none => lk bx q
  by_cases h : q = k
  ·rw [if_pos h, if_pos h]
  ·rw [if_neg h, if_neg h, if_neg h]
   cases lk r q <;> rfl
 | (k, none) :: r, bx => by
  funext q
  show lk ((putB r bx).filter (·.1 != k)) q = _
  rw [lk_filterK, lk_putB r bx]
  unfold updB
  show _ = match (if q = k then some none else lk r q) with | some ob => ob | none => lk bx q
  by_cases h : q = k
  ·rw [if_pos h, if_pos h]
  ·rw [if_neg h, if_neg h]
   cases lk r q <;> rfl
theorem run_of_seq {P : Program} {E : Env} {ops : Array Oper} {nx : Nat} : ∀ {i : Nat} {l : List Oper} {st s : St} {ks : List Key} {ns : List Note}, seqOps P E ops i l st = some (s, ks, ns) → ks = [] → st.nx = nx →
    ∃ rs, Run P E ops nx i l (lk st.tm) (lk st.bx) rs (lk s.tm) (lk s.bx) ∧ s.nx = nx ∧ ns = rs.map fun r => ⟨r.keys, r.up.map (·.1)⟩
 | i, [], st, s, ks, ns, h, hk, hx => by
  simp [seqOps] at h
  obtain ⟨rfl, rfl, rfl⟩ := h
  exact ⟨[], .nil, hx, rfl⟩
 | i, o :: rest, st, s, ks, ns, h, hk, hx => by
  unfold seqOps at h
  split at h
  ·rename_i hd
   have hd' : ∀ k, o.dst = some k → k < E.N := fun k hk => by rw [hk] at hd; simpa using hd
   split at h
   ·rename_i hw
    split at h
    ·rename_i e he
     cases h1 : seqOps P E ops (i + 1) rest { st with tm := setT o.dst e.av st.tm, bx := putB e.up st.bx } with
     | none => simp [h1] at h
     | some r =>
      obtain ⟨s', k', n'⟩ := r
      simp [h1] at h
      obtain ⟨rfl, rfl, rfl⟩ := h
      obtain ⟨hn, hk'⟩ := List.append_eq_nil_iff.1 hk
      obtain ⟨rs, g1, g2, g3⟩ := run_of_seq h1 hk' hx
      simp only [lk_setT, lk_putB] at g1
      exact ⟨_, .op hd' hw (by rw [← hx]; exact he) hn g1, g2, by simp [g3]⟩
    ·cases h
   ·rename_i hw
    cases h1 : seqOps P E ops (i + 1) rest { st with tm := setT o.dst .un st.tm } with
    | none => simp [h1] at h
    | some r =>
     obtain ⟨s', k', n'⟩ := r
     simp [h1] at h
     obtain ⟨rfl, rfl, rfl⟩ := h
     obtain ⟨rs, g1, g2, g3⟩ := run_of_seq h1 hk hx
     simp only [lk_setT] at g1
     exact ⟨_, .no hd' hw g1, g2, by simp [g3]⟩
   ·cases h
  ·cases h
section
variable {V X : Nat → Prop} {Z : Key → Hd} {w0 w : World} {N : Nat} {ρ : Key → Hd} {ok ok' : Key → Prop} {lt lt' : Nat → Option AV} {lb lb' : Key → Option Box} {a : Act} {P : Program} {E : Env} {ops : Array Oper} {Q : Exit → Act → World → Prop}
theorem wantA_sound (h : Rel V X Z w0 N ρ ok lt lb a w) {o : Oper} {b : Bool} (he : wantA ops o lt = some b) : Region.wanted o (yielded ops a.tmps) = b := by
 unfold wantA at he
 unfold Region.wanted
 split at he
 ·rename_i hg; cases he; simp [hg]
 ·rename_i j bb hg
  simp only [hg]
  cases hd : (ops[j]?).bind (·.dst) with
  | none => simp [hd] at he
  | some t =>
   cases ht : lt t with
   | none => simp [hd, ht] at he
   | some av =>
    simp only [hd, ht, Option.bind_some] at he
    obtain ⟨h1, h2⟩ := h.tm t av ht
    have h3 : a.tmps[t]? = some (a.tmps.getD t undef) := by
     have : t < a.tmps.size := by rw [h.size]; exact h1
     simp [Array.getD, this]
    unfold yielded
    simp only [hd, Option.bind_some, h3]
    split at he
    ·rename_i c e2
     cases he
     cases e2
     have := conV_sound (x := .bool c) rfl h2
     rw [this]
     simp
    ·rename_i e2
     cases he
     cases e2
     have h4 : a.tmps.getD t undef = undef := h2
     rw [h4]
     simp [undef]
    ·cases he
theorem run_seq (hop : ∀ i, OpSound P (E.call i) E.lend) (hN : E.N = N) {nx : Nat} : ∀ {i : Nat} {l : List Oper} {lt lt' : Nat → Option AV} {lb lb' : Key → Option Box} {rs : List Rec} {ρ : Key → Hd} {a : Act} {w : World}, Run P E ops nx i l lt lb rs lt' lb' → (∀ j o, l[j]? = some o → ops[i + j]? = some o) →
    Rel V X Z w0 N ρ (fun q => q.2 < nx ∨ (q.2 = nx ∧ q.1 / 64 < i)) lt lb a w → (∀ a w, (∃ ρ, Rel V X Z w0 N ρ (fun q => q.2 < nx + 1) lt' lb' a w) → Q .normal a w) → wpOps P ops Q ((List.range l.length).map (i + ·)) a w
 | i, [], lt, lt', lb, lb', rs, ρ, a, w, hr, ho, h, hQ => by
  cases hr
  exact hQ a w ⟨ρ, h.okmono fun q hq => by omega⟩
 | i, o :: rest, lt, lt', lb, lb', rs, ρ, a, w, hr, ho, h, hQ => by
  have h0 : ops[i]? = some o := by simpa using ho 0 o (by simp)
  have e1 : (List.range (o :: rest).length).map (i + ·) = i :: (List.range rest.length).map ((i + 1) + ·) := by
   rw [List.length_cons, List.range_succ_eq_map, List.map_cons, List.map_map]
   congr 1
   apply List.map_congr_left
   intro x _
   simp
   omega
  rw [e1, wpOps_cons]
  unfold wpOp
  simp only [h0]
  have ho' : ∀ j o, rest[j]? = some o → ops[i + 1 + j]? = some o := fun j o hj => by
   have := ho (j + 1) o (by simpa using hj)
   rwa [show i + (j + 1) = i + 1 + j by omega] at this
  cases hr with
  | op hd hw he hn t =>
   rw [if_pos (by rw [wantA_sound h hw])]
   refine .inl (Oper.wp_mono (fun a' w' ⟨ρ', h'⟩ => run_seq hop hN t ho' h' hQ) (hop i h (ok' := fun q => q.2 < nx ∨ (q.2 = nx ∧ q.1 / 64 < i + 1)) (fun q hq => by omega) (fun k hk => hN ▸ hd k hk) (onlyT_sub o lt) (onlyB_sub _ lb) (keyAt_inj i nx) (fun j hj => ?_) he hn))
   show ¬ (nx < nx ∨ (nx = nx ∧ (i * 64 + j) / 64 < i)) ∧ (nx < nx ∨ (nx = nx ∧ (i * 64 + j) / 64 < i + 1))
   exact ⟨by omega, by omega⟩
  | no hd hw t =>
   rw [if_neg (by rw [wantA_sound h hw]; simp)]
   exact run_seq hop hN t ho' (h.pure o.dst .un undef (fun k hk => hN ▸ hd k hk) (fun q hq => by omega) rfl) hQ
end
end Go.Proofs.YtjpdemikmdfonaaGreatDoor
namespace Go.Proofs.YtjpdemikmdfonaaGreatDoor
open Go Go.RowKit
set_option linter.unusedSimpArgs false
set_option linter.unusedVariables false
def dK (l : List Oper) (k : Nat) : Option Nat := (l[k]?).bind (·.dst)
def vK (rs : List Rec) (k : Nat) : AV := ((rs[k]?).map (·.av)).getD .un
def uK (rs : List Rec) (k : Nat) : List (Key × Option Box) := ((rs[k]?).map (·.up)).getD []
def ltS (l : List Oper) (rs : List Rec) (S : Nat → Bool) (lt : Nat → Option AV) : Nat → Nat → Option AV
 | 0 => lt
 | k + 1 => if S k = true then updT (ltS l rs S lt k) (dK l k) (vK rs k) else ltS l rs S lt k
def lbS (rs : List Rec) (S : Nat → Bool) (lb : Key → Option Box) : Nat → Key → Option Box
 | 0 => lb
 | k + 1 => if S k = true then updB (lbS rs S lb k) (uK rs k) else lbS rs S lb k
section
variable {l : List Oper} {rs : List Rec} {S T : Nat → Bool} {lt : Nat → Option AV} {lb : Key → Option Box}
theorem ltS_eq {t : Nat} : ∀ (n : Nat), (∀ j, j < n → dK l j = some t → S j = T j) → ltS l rs S lt n t = ltS l rs T lt n t
 | 0, _ => rfl
 | n + 1, h => by
  have ih := ltS_eq n (fun j hj => h j (by omega))
  unfold ltS
  by_cases hd : dK l n = some t
  ·rw [h n (by omega) hd]
   split
   ·unfold updT; rw [if_pos hd, if_pos hd]
   ·exact ih
  ·have e1 : ∀ f : Nat → Option AV, updT f (dK l n) (vK rs n) t = f t := fun f => by unfold updT; rw [if_neg hd]
   split <;> split <;> simp only [e1, ih]
theorem lk_none {k : Key} : ∀ {up : List (Key × Option Box)}, k ∉ up.map (·.1) → lk up k = none
 | [], _ => rfl
 | (q, b) :: r, h => by
  show (if k = q then some b else lk r k) = none
  rw [if_neg (fun e => h (by simp [e]))]
  exact lk_none (fun hm => h (by simp only [List.map_cons, List.mem_cons]; exact .inr hm))
theorem lk_some {k : Key} : ∀ {up : List (Key × Option Box)}, k ∈ up.map (·.1) → ∃ b, lk up k = some b
 | [], h => by simp at h
 | (q, b) :: r, h => by
  by_cases e : k = q
  ·exact ⟨b, by show (if k = q then some b else lk r k) = some b; rw [if_pos e]⟩
  ·obtain ⟨b', hb⟩ := lk_some (up := r) (by simpa [e] using h)
   exact ⟨b', by show (if k = q then some b else lk r k) = some b'; rw [if_neg e]; exact hb⟩
theorem lbS_eq {k : Key} : ∀ (n : Nat), (∀ j, j < n → k ∈ (uK rs j).map (·.1) → S j = T j) → lbS rs S lb n k = lbS rs T lb n k
 | 0, _ => rfl
 | n + 1, h => by
  have ih := lbS_eq n (fun j hj => h j (by omega))
  unfold lbS
  by_cases hd : k ∈ (uK rs n).map (·.1)
  ·rw [h n (by omega) hd]
   obtain ⟨b, hb⟩ := lk_some hd
   split
   ·unfold updB; simp only [hb]
   ·exact ih
  ·have e1 : ∀ f : Key → Option Box, updB f (uK rs n) k = f k := fun f => by unfold updB; rw [lk_none hd]
   split <;> split <;> simp only [e1, ih]
theorem ltS_last {t i : Nat} (hd : dK l i = some t) : ∀ (n : Nat), i < n → S i = true → (∀ j, j < n → i < j → dK l j = some t → S j = false) → ltS l rs S lt n t = some (vK rs i)
 | 0, h, _, _ => absurd h (by omega)
 | n + 1, h, hs, hl => by
  unfold ltS
  by_cases e : i = n
  ·subst e
   rw [if_pos hs]
   unfold updT
   rw [if_pos hd]
  ·have ih := ltS_last hd n (by omega) hs (fun j hj => hl j (by omega))
   by_cases hd2 : dK l n = some t
   ·rw [if_neg (by rw [hl n (by omega) (by omega) hd2]; decide)]; exact ih
   ·split
    ·unfold updT; rw [if_neg hd2]; exact ih
    ·exact ih
theorem lbS_last {k : Key} {i : Nat} {ob : Option Box} (hd : lk (uK rs i) k = some ob) : ∀ (n : Nat), i < n → S i = true → (∀ j, j < n → i < j → k ∈ (uK rs j).map (·.1) → S j = false) → lbS rs S lb n k = ob
 | 0, h, _, _ => absurd h (by omega)
 | n + 1, h, hs, hl => by
  unfold lbS
  by_cases e : i = n
  ·subst e
   rw [if_pos hs]
   unfold updB
   rw [hd]
  ·have ih := lbS_last hd n (by omega) hs (fun j hj => hl j (by omega))
   by_cases hd2 : k ∈ (uK rs n).map (·.1)
   ·rw [if_neg (by rw [hl n (by omega) (by omega) hd2]; decide)]; exact ih
   ·split
    ·unfold updB; rw [lk_none hd2]; exact ih
    ·exact ih
end
section
variable {P : Program} {E : Env} {ops : Array Oper} {nx : Nat}
theorem ltS_shift (o : Oper) (l : List Oper) (r : Rec) (rs : List Rec) (lt : Nat → Option AV) : ∀ j, ltS (o :: l) (r :: rs) (fun _ => true) lt (j + 1) = ltS l rs (fun _ => true) (updT lt o.dst r.av) j
 | 0 => by simp [ltS, dK, vK]
 | j + 1 => by
  have ih := ltS_shift o l r rs lt j
  unfold ltS
  rw [ih]
  simp [dK, vK]
theorem lbS_shift (r : Rec) (rs : List Rec) (lb : Key → Option Box) : ∀ j, lbS (r :: rs) (fun _ => true) lb (j + 1) = lbS rs (fun _ => true) (updB lb r.up) j
 | 0 => by simp [lbS, uK]
 | j + 1 => by
  have ih := lbS_shift r rs lb j
  unfold lbS
  rw [ih]
  simp [uK]
def At (P : Program) (E : Env) (ops : Array Oper) (nx i : Nat) (o : Oper) (r : Rec) (lt : Nat → Option AV) (lb : Key → Option Box) : Prop :=
 (∀ k, o.dst = some k → k < E.N) ∧ ((wantA ops o lt = some true ∧ (∃ e, effAt P E i o lt lb nx = some e ∧ e.needs = [] ∧ e.av = r.av ∧ e.up = r.up) ∧ r.keys = opKeys lt lb o) ∨ (wantA ops o lt = some false ∧ r.av = .un ∧ r.up = []))
theorem run_at {i : Nat} {l : List Oper} {lt lt' : Nat → Option AV} {lb lb' : Key → Option Box} {rs : List Rec} (h : Run P E ops nx i l lt lb rs lt' lb') :
    rs.length = l.length ∧ (∀ j o, l[j]? = some o → ∃ r, rs[j]? = some r ∧ At P E ops nx (i + j) o r (ltS l rs (fun _ => true) lt j) (lbS rs (fun _ => true) lb j)) ∧ lt' = ltS l rs (fun _ => true) lt l.length ∧ lb' = lbS rs (fun _ => true) lb l.length := by
 induction h with
 | nil => exact ⟨rfl, fun j o hj => by simp at hj, rfl, rfl⟩
 | @op i o rest lt lt' lb lb' e rs hd hw he hn t ih =>
  obtain ⟨h1, h2, h3, h4⟩ := ih
  refine ⟨by simp [h1], fun j o' hj => ?_, ?_, ?_⟩
  ·cases j with
   | zero =>
    simp at hj
    subst hj
    exact ⟨⟨e.av, e.up, opKeys lt lb o⟩, rfl, hd, .inl ⟨hw, ⟨e, he, hn, rfl, rfl⟩, rfl⟩⟩
   | succ j =>
    obtain ⟨r, g1, g2⟩ := h2 j o' (by simpa using hj)
    refine ⟨r, by simpa using g1, ?_⟩
    rw [ltS_shift, lbS_shift, show i + (j + 1) = i + 1 + j by omega]
    exact g2
  ·rw [List.length_cons, ltS_shift]; exact h3
  ·rw [List.length_cons, lbS_shift]; exact h4
 | @no i o rest lt lt' lb lb' rs hd hw t ih =>
  obtain ⟨h1, h2, h3, h4⟩ := ih
  refine ⟨by simp [h1], fun j o' hj => ?_, ?_, ?_⟩
  ·cases j with
   | zero =>
    simp at hj
    subst hj
    exact ⟨⟨.un, [], []⟩, rfl, hd, .inr ⟨hw, rfl, rfl⟩⟩
   | succ j =>
    obtain ⟨r, g1, g2⟩ := h2 j o' (by simpa using hj)
    refine ⟨r, by simpa using g1, ?_⟩
    rw [ltS_shift, lbS_shift, show i + (j + 1) = i + 1 + j by omega]
    exact g2
  ·rw [List.length_cons, ltS_shift]; exact h3
  ·rw [List.length_cons, lbS_shift]; exact h4
theorem masks_len (ops : Array Oper) : ∀ k, (masks ops k).length = k
 | 0 => rfl
 | k + 1 => by simp [masks, masks_len ops k]
theorem masks_pre (ops : Array Oper) (i : Nat) : ∀ k, i < k → (masks ops k).getD i 0 = (masks ops (i + 1)).getD i 0
 | 0, h => absurd h (by omega)
 | k + 1, h => by
  by_cases e : i = k
  ·rw [e]
  ·have ih := masks_pre ops i k (by omega)
   rw [← ih]
   have hl := masks_len ops k
   rw [show masks ops (k + 1) = masks ops k ++ [match ops[k]? with
    | some o => o.after.toList.foldl (fun s e => if Region.binds .any e then s ||| (2 ^ e.on ||| (masks ops k).getD e.on 0) else s) 0
    | none => 0] from rfl]
   rw [List.getD_eq_getElem?_getD, List.getD_eq_getElem?_getD, List.getElem?_append_left (by omega)]
theorem mask_edge {i j : Nat} {o : Oper} (ho : ops[i]? = some o) (h : ((masks ops (i + 1)).getD i 0).testBit j = true) : ∃ e ∈ o.after, Region.binds .any e = true ∧ (e.on = j ∨ ((masks ops i).getD e.on 0).testBit j = true) := by
 have hl := masks_len ops i
 rw [show masks ops (i + 1) = masks ops i ++ [match ops[i]? with
       | some o => o.after.toList.foldl (fun s e => if Region.binds .any e then s ||| (2 ^ e.on ||| (masks ops i).getD e.on 0) else s) 0
       | none => 0] from rfl, List.getD_eq_getElem?_getD, List.getElem?_append_right (by omega), hl, Nat.sub_self, ho] at h
 simp only [List.getElem?_cons_zero, Option.getD_some] at h
 have key : ∀ (es : List Edge) (s : Nat), (es.foldl (fun s e => if Region.binds .any e then s ||| (2 ^ e.on ||| (masks ops i).getD e.on 0) else s) s).testBit j = true → s.testBit j = true ∨ ∃ e ∈ es, Region.binds .any e = true ∧ (e.on = j ∨ ((masks ops i).getD e.on 0).testBit j = true) := by
  intro es
  induction es with
  | nil => intro s hs; exact .inl hs
  | cons e es ih =>
   intro s hs
   rw [List.foldl_cons] at hs
   rcases ih _ hs with h1 | ⟨e', h1, h2⟩
   ·by_cases hb : Region.binds .any e = true
    ·rw [if_pos hb, Nat.testBit_or, Nat.testBit_or, Nat.testBit_two_pow] at h1
     simp only [Bool.or_eq_true, decide_eq_true_eq] at h1
     rcases h1 with h1 | h1 | h1
     ·exact .inl h1
     ·exact .inr ⟨e, by simp, hb, .inl h1⟩
     ·exact .inr ⟨e, by simp, hb, .inr h1⟩
    ·rw [if_neg hb] at h1; exact .inl h1
   ·exact .inr ⟨e', by simp [h1], h2⟩
 rcases key _ 0 h with h1 | ⟨e, h1, h2⟩
 ·simp at h1
 ·exact ⟨e, by simpa using h1, h2⟩
theorem sub_addK : ∀ (l ks : List Key) (k : Key), k ∈ ks → k ∈ l.foldl addK ks
 | [], _, _, h => h
 | x :: l, ks, k, h => by
  rw [List.foldl_cons]
  refine sub_addK l _ k ?_
  unfold addK
  split
  ·exact h
  ·exact List.mem_append_left _ h
theorem sub_reachK (lb : Key → Option Box) : ∀ (n : Nat) (ks : List Key) (k : Key), k ∈ ks → k ∈ reachK lb n ks
 | 0, _, _, h => h
 | n + 1, ks, k, h => sub_reachK lb n _ k (sub_addK _ _ k h)
theorem reachK_congr {lb lb' : Key → Option Box} : ∀ (n : Nat) (ks : List Key), (∀ k ∈ reachK lb' n ks, lb k = lb' k) → reachK lb n ks = reachK lb' n ks
 | 0, _, _ => rfl
 | n + 1, ks, h => by
  have hk : ∀ k ∈ ks, lb k = lb' k := fun k hm => h k (sub_reachK lb' (n + 1) ks k hm)
  have e : (ks.flatMap fun k => match lb k with | some b => keysBx b | none => []) = ks.flatMap fun k => match lb' k with | some b => keysBx b | none => [] := by
   simp only [List.flatMap]
   congr 1
   apply List.map_congr_left
   intro q hq
   rw [hk q hq]
  show reachK lb n ((ks.flatMap fun k => match lb k with | some b => keysBx b | none => []).foldl addK ks) = reachK lb' n ((ks.flatMap fun k => match lb' k with | some b => keysBx b | none => []).foldl addK ks)
  rw [e]
  exact reachK_congr n _ h
theorem deepOp_congr {op : Op} {lb lb' : Key → Option Box} {ks : List Key} : ∀ {l2 : List Key}, (∀ k ∈ deepOp op lb' ks l2, lb k = lb' k) → deepOp op lb ks l2 = deepOp op lb' ks l2
 | [], _ => rfl
 | _ :: _, h => by
  cases op with
  | call c => exact reachK_congr 8 ks h
  | _ => rfl
theorem opKeys_congr {lt lt' : Nat → Option AV} {lb lb' : Key → Option Box} {o : Oper} (h1 : ∀ t ∈ opTmps o, lt t = lt' t) (h2 : ∀ k ∈ opKeys lt' lb' o, lb k = lb' k) : opKeys lt lb o = opKeys lt' lb' o := by
 unfold opKeys at h2 ⊢
 split
 ·rename_i hl
  rw [if_pos hl] at h2
  have e1 : (opTmps o).flatMap (keysT lt) = (opTmps o).flatMap (keysT lt') := by
   simp only [List.flatMap]
   congr 1
   apply List.map_congr_left
   intro t ht
   unfold keysT
   rw [h1 t ht]
  have fc : ∀ ks : List Key, (∀ q ∈ ks, lb q = lb' q) → ks.flatMap (fun q => keysB (lb q)) = ks.flatMap (fun q => keysB (lb' q)) := fun ks hk => by
   simp only [List.flatMap]
   congr 1
   apply List.map_congr_left
   intro q hq
   rw [hk q hq]
  simp only [e1] at h2 ⊢
  generalize (opTmps o).flatMap (keysT lt') = ks at h2 ⊢
  split
  ·rfl
  ·rename_i hf
   rw [if_neg hf] at h2
   rw [fc ks (fun q hq => h2 q (List.mem_append_left _ hq))]
   rw [fc _ (fun q hq => h2 q (List.mem_append_right _ (List.mem_append_left _ hq)))]
   rw [deepOp_congr (fun q hq => h2 q (List.mem_append_right _ (List.mem_append_right _ (List.mem_append_right _ hq))))]
 ·rfl
theorem effAt_congr {i : Nat} {o : Oper} {lt lt' : Nat → Option AV} {lb lb' : Key → Option Box} (h1 : ∀ t ∈ opTmps o, lt t = lt' t) (h2 : ∀ k ∈ opKeys lt' lb' o, lb k = lb' k) : effAt P E i o lt lb nx = effAt P E i o lt' lb' nx := by
 unfold effAt
 rw [opKeys_congr h1 h2]
 have e1 : onlyT o lt = onlyT o lt' := by
  funext t
  unfold onlyT
  split
  ·rename_i h; exact h1 t (by simpa using h)
  ·rfl
 have e2 : onlyB (opKeys lt' lb' o) lb = onlyB (opKeys lt' lb' o) lb' := by
  funext k
  unfold onlyB
  split
  ·rename_i h; exact h2 k (by simpa using h)
  ·rfl
 rw [e1, e2]
theorem wantA_congr {o : Oper} {lt lt' : Nat → Option AV} (h : ∀ t ∈ guardTmps ops o, lt t = lt' t) : wantA ops o lt = wantA ops o lt' := by
 unfold wantA
 unfold guardTmps at h
 split
 ·rfl
 ·rename_i j b hg
  simp only [hg] at h
  cases hd : (ops[j]?).bind (·.dst) with
  | none => rfl
  | some t => simp only [Option.bind_some]; rw [h t (by simp [hd])]
section
variable {V X : Nat → Prop} {Z : Key → Hd} {w0 : World} {N : Nat} {Q : Exit → Act → World → Prop}
theorem any_order (hop : ∀ i, OpSound P (E.call i) E.lend) (hN : E.N = N) {lt0 ltf : Nat → Option AV} {lb0 lbf : Key → Option Box} {rs : List Rec} (hrun : Run P E ops nx 0 ops.toList lt0 lb0 rs ltf lbf) (hord : orderOk ops (masks ops ops.size) (rs.map fun r => ⟨r.keys, r.up.map (·.1)⟩) = true)
    (hQ : ∀ a w, (∃ ρ, Rel V X Z w0 N ρ (fun q => q.2 < nx + 1) ltf lbf a w) → Q .normal a w) :
    ∀ (f : Nat) (listed : Array Bool) (ρ : Key → Hd) (a : Act) (w : World), listed.size = ops.size → undone listed ops.size = f → (∀ i o, ops[i]? = some o → listed.getD i false = true → ∀ e ∈ o.after, Region.binds .any e = true → listed.getD e.on false = true) →
     Rel V X Z w0 N ρ (fun q => q.2 < nx ∨ (q.2 = nx ∧ listed.getD (q.1 / 64) false = true)) (ltS ops.toList rs (fun i => listed.getD i false) lt0 ops.size) (lbS rs (fun i => listed.getD i false) lb0 ops.size) a w → wpAny P .any ops Q f listed a w := by
 obtain ⟨hlen, hat, hltf, hlbf⟩ := run_at hrun
 rw [Array.length_toList] at hlen hltf hlbf
 unfold orderOk at hord
 rw [List.all_eq_true] at hord
 have hE : ∀ i o, ops[i]? = some o → ∀ e ∈ o.after, Region.binds .any e = true → e.on < i := by
  intro i o ho e he hb
  have := hord i (List.mem_range.2 (opt_lt ho))
  rw [Bool.and_eq_true] at this
  have h1 := this.1
  simp only [ho] at h1
  have h2 := List.all_eq_true.1 h1 e (by simpa using he)
  rw [hb] at h2
  simpa using h2
 have hap : ∀ i j, i < j → j < ops.size → ((masks ops ops.size).getD j 0).testBit i = true ∨ ∃ o o' r r', ops[i]? = some o ∧ ops[j]? = some o' ∧ rs[i]? = some r ∧ rs[j]? = some r' ∧ apartOk ops o o' ⟨r.keys, r.up.map (·.1)⟩ ⟨r'.keys, r'.up.map (·.1)⟩ = true ∧ apartOk ops o' o ⟨r'.keys, r'.up.map (·.1)⟩ ⟨r.keys, r.up.map (·.1)⟩ = true := by
  intro i j hij hj
  have := hord j (List.mem_range.2 hj)
  rw [Bool.and_eq_true] at this
  have h1 := List.all_eq_true.1 this.2 i (List.mem_range.2 hij)
  rw [Bool.or_eq_true] at h1
  rcases h1 with h1 | h1
  ·exact .inl h1
  ·right
   split at h1
   ·rename_i o o' n n' e1 e2 e3 e4
    rw [List.getElem?_map] at e3 e4
    obtain ⟨r, k1, rfl⟩ := Option.map_eq_some_iff.1 e3
    obtain ⟨r', k2, rfl⟩ := Option.map_eq_some_iff.1 e4
    rw [Bool.and_eq_true] at h1
    exact ⟨o, o', r, r', e1, e2, k1, k2, h1.1, h1.2⟩
   ·cases h1
 intro f
 induction f with
 | zero =>
  intro listed ρ a w hs hu hcl hR
  have hall := undone_zero hu
  refine ⟨?_, hQ a w ⟨ρ, ?_⟩⟩
  ·cases hr : Region.ready .any ops listed with
   | nil => rfl
   | cons x xs =>
    have hx : x ∈ Region.ready .any ops listed := by rw [hr]; simp
    obtain ⟨h1, o, h2, _⟩ := mem_ready.1 hx
    rw [getD_true (by rw [hs]; exact opt_lt h2), hall x (opt_lt h2)] at h1
    cases h1
  ·have e1 : ltS ops.toList rs (fun i => listed.getD i false) lt0 ops.size = ltf := by
     rw [hltf]; funext t; exact ltS_eq _ (fun j hj _ => hall j hj)
   have e2 : lbS rs (fun i => listed.getD i false) lb0 ops.size = lbf := by
    rw [hlbf]; funext k; exact lbS_eq _ (fun j hj _ => hall j hj)
   rw [e1, e2] at hR
   exact hR.okmono fun q hq => by rcases hq with h | h <;> omega
 | succ f ih =>
  intro listed ρ a w hs hu hcl hR
  refine ⟨fun h0 => ?_, fun i hi => ?_⟩
  ·obtain ⟨i, k1, k2, k3⟩ := undone_pos (listed := listed) (m := ops.size) (by omega)
   have hio : ops[i]? = some (ops[i]'k1) := Array.getElem?_eq_getElem k1
   have : i ∈ Region.ready .any ops listed := mem_ready.2 ⟨by rw [getD_true (by omega)]; exact k2, _, hio, fun e he hb => k3 _ (hE i _ hio e he hb)⟩
   rw [h0] at this
   cases this
  ·obtain ⟨g1, o, g2, g3⟩ := mem_ready.1 hi
   have hlt := opt_lt g2
   rw [getD_true (by omega)] at g1
   have hclosed : ∀ (j : Nat), listed.getD j false = true → j < ops.size → ∀ k, ((masks ops ops.size).getD j 0).testBit k = true → listed.getD k false = true := by
    intro j
    induction j using Nat.strongRecOn with
    | _ j ihj =>
     intro hj hjs k hk
     have hjo : ops[j]? = some (ops[j]'hjs) := Array.getElem?_eq_getElem hjs
     rw [masks_pre ops j ops.size hjs] at hk
     obtain ⟨e, he, hb, h1⟩ := mask_edge hjo hk
     have hel := hE j _ hjo e he hb
     have hle := hcl j _ hjo hj e he hb
     rcases h1 with h1 | h1
     ·rw [← h1]; exact hle
     ·rw [masks_pre ops e.on j hel, ← masks_pre ops e.on ops.size (by omega)] at h1
      exact ihj e.on hel hle (by omega) k h1
   have hpred : ∀ k, ((masks ops ops.size).getD i 0).testBit k = true → listed.getD k false = true := by
    intro k hk
    rw [masks_pre ops i ops.size hlt] at hk
    obtain ⟨e, he, hb, h1⟩ := mask_edge g2 hk
    have hel := hE i _ g2 e he hb
    have hle := g3 e he hb
    rcases h1 with h1 | h1
    ·rw [← h1]; exact hle
    ·rw [masks_pre ops e.on i hel, ← masks_pre ops e.on ops.size (by omega)] at h1
     exact hclosed e.on hle (by omega) k h1
   obtain ⟨r, hri, hAt⟩ := hat i o (by simpa using g2)
   rw [Nat.zero_add] at hAt
   have etT : ∀ t, ltS ops.toList rs (fun _ => true) lt0 i t = ltS ops.toList rs (fun j => decide (j < i)) lt0 ops.size t := by
    intro t
    have e1 : ∀ n, i ≤ n → ltS ops.toList rs (fun j => decide (j < i)) lt0 n t = ltS ops.toList rs (fun j => decide (j < i)) lt0 i t := by
     intro n hn
     induction n with
     | zero => obtain rfl : i = 0 := by omega
               rfl
     | succ n ihn =>
      by_cases e : i = n + 1
      ·rw [e]
      ·rw [← ihn (by omega)]
       show (if decide (n < i) = true then _ else _ : Nat → Option AV) t = _
       rw [if_neg (by simp; omega)]
    rw [e1 ops.size (by omega)]
    exact ltS_eq i (fun j hj _ => by simp [hj])
   have etB : ∀ k, lbS rs (fun _ => true) lb0 i k = lbS rs (fun j => decide (j < i)) lb0 ops.size k := by
    intro k
    have e1 : ∀ n, i ≤ n → lbS rs (fun j => decide (j < i)) lb0 n k = lbS rs (fun j => decide (j < i)) lb0 i k := by
     intro n hn
     induction n with
     | zero => obtain rfl : i = 0 := by omega
               rfl
     | succ n ihn =>
      by_cases e : i = n + 1
      ·rw [e]
      ·rw [← ihn (by omega)]
       show (if decide (n < i) = true then _ else _ : Key → Option Box) k = _
       rw [if_neg (by simp; omega)]
    rw [e1 ops.size (by omega)]
    exact lbS_eq i (fun j hj _ => by simp [hj])
   have hside : ∀ j, j < ops.size → (∀ oj rj, ops[j]? = some oj → rs[j]? = some rj → ¬ (apartOk ops oj o ⟨rj.keys, rj.up.map (·.1)⟩ ⟨r.keys, r.up.map (·.1)⟩ = true)) → j ≠ i → listed.getD j false = decide (j < i) := by
    intro j hj hnot hne
    rcases Nat.lt_or_gt_of_ne hne with hlt' | hgt
    ·rw [decide_eq_true hlt']
     rcases hap j i hlt' hlt with h1 | ⟨oj, o', rj, r', k1, k2, k3, k4, k5, k6⟩
     ·exact hpred j h1
     ·rw [g2] at k2; cases k2; rw [hri] at k4; cases k4
      exact absurd k5 (hnot oj rj k1 k3)
    ·rw [decide_eq_false (by omega)]
     rcases hap i j hgt hj with h1 | ⟨o', oj, r', rj, k1, k2, k3, k4, k5, k6⟩
     ·cases hb : listed.getD j false with
      | false => rfl
      | true => have := hclosed j hb hj i h1; rw [g1] at this; cases this
     ·rw [g2] at k1; cases k1; rw [hri] at k3; cases k3
      exact absurd k6 (hnot oj rj k2 k4)
   have hdstSide : ∀ t, (t ∈ opTmps o ∨ t ∈ guardTmps ops o ∨ o.dst = some t) → ∀ j, j < ops.size → j ≠ i → dK ops.toList j = some t → listed.getD j false = decide (j < i) := by
    intro t ht j hj hne hd
    refine hside j hj (fun oj rj h1 h2 hap' => ?_) hne
    have hdj : oj.dst = some t := by simpa [dK, h1] using hd
    unfold apartOk at hap'
    rw [hdj] at hap'
    simp only [Bool.and_eq_true, Bool.not_eq_true', bne_iff_ne, ne_eq] at hap'
    rcases ht with h3 | h3 | h3
    ·have := hap'.1.1.1; simp [h3] at this
    ·have := hap'.1.1.2; simp [h3] at this
    ·exact hap'.1.2 h3
   have hkeySide : ∀ k, (k ∈ r.keys ∨ k ∈ r.up.map (·.1)) → ∀ j, j < ops.size → j ≠ i → k ∈ (uK rs j).map (·.1) → listed.getD j false = decide (j < i) := by
    intro k hk j hj hne hd
    refine hside j hj (fun oj rj h1 h2 hap' => ?_) hne
    have huj : k ∈ rj.up.map (·.1) := by simpa [uK, h2] using hd
    unfold apartOk at hap'
    rw [Bool.and_eq_true] at hap'
    have := List.all_eq_true.1 hap'.2 k huj
    simp only [Bool.and_eq_true, Bool.not_eq_true'] at this
    rcases hk with h3 | h3
    ·have := this.1; simp [h3] at this
    ·have := this.2
     have h4 : (r.up.map (·.1)).contains k = true := by simpa using h3
     rw [h4] at this
     cases this
   have hT : ∀ t, (t ∈ opTmps o ∨ t ∈ guardTmps ops o) → ltS ops.toList rs (fun i => listed.getD i false) lt0 ops.size t = ltS ops.toList rs (fun _ => true) lt0 i t := by
    intro t ht
    rw [etT]
    refine ltS_eq _ (fun j hj hd => ?_)
    by_cases e : j = i
    ·subst e; rw [g1]; simp
    ·exact hdstSide t (by rcases ht with h | h <;> simp [h]) j hj e hd
   have hK : ∀ k, k ∈ r.keys → lbS rs (fun i => listed.getD i false) lb0 ops.size k = lbS rs (fun _ => true) lb0 i k := by
    intro k hk
    rw [etB]
    refine lbS_eq _ (fun j hj hd => ?_)
    by_cases e : j = i
    ·subst e; rw [g1]; simp
    ·exact hkeySide k (.inl hk) j hj e hd
   have hdi : dK ops.toList i = o.dst := by simp [dK, g2]
   have hvi : vK rs i = r.av := by simp [vK, hri]
   have hui : uK rs i = r.up := by simp [uK, hri]
   have hset : ∀ j, (listed.setIfInBounds i true).getD j false = if j = i then true else listed.getD j false := fun j => getD_set (by omega)
   have eT : updT (ltS ops.toList rs (fun i => listed.getD i false) lt0 ops.size) o.dst r.av = ltS ops.toList rs (fun j => (listed.setIfInBounds i true).getD j false) lt0 ops.size := by
    funext t
    unfold updT
    by_cases hd : o.dst = some t
    ·rw [if_pos hd, ← hvi]
     refine (ltS_last (i := i) (hdi.trans hd) _ hlt (by rw [hset, if_pos rfl]) (fun j hj hij hdj => ?_)).symm
     rw [hset, if_neg (by omega), hdstSide t (.inr (.inr hd)) j hj (by omega) hdj]
     simp
     omega
    ·rw [if_neg hd]
     refine ltS_eq _ (fun j hj hdj => ?_)
     rw [hset, if_neg (fun e => hd (by rw [← hdi, ← e]; exact hdj))]
   have eB : updB (lbS rs (fun i => listed.getD i false) lb0 ops.size) r.up = lbS rs (fun j => (listed.setIfInBounds i true).getD j false) lb0 ops.size := by
    funext k
    by_cases hd : k ∈ r.up.map (·.1)
    ·obtain ⟨b, hb⟩ := lk_some hd
     have h1 : updB (lbS rs (fun i => listed.getD i false) lb0 ops.size) r.up k = b := by unfold updB; rw [hb]
     rw [h1]
     refine (lbS_last (i := i) (by rw [hui]; exact hb) _ hlt (by rw [hset, if_pos rfl]) (fun j hj hij hdj => ?_)).symm
     rw [hset, if_neg (by omega), hkeySide k (.inr hd) j hj (by omega) hdj]
     simp
     omega
    ·have h1 : updB (lbS rs (fun i => listed.getD i false) lb0 ops.size) r.up k = lbS rs (fun i => listed.getD i false) lb0 ops.size k := by unfold updB; rw [lk_none hd]
     rw [h1]
     refine lbS_eq _ (fun j hj hdj => ?_)
     rw [hset, if_neg (fun e => hd (by rw [← hui, ← e]; exact hdj))]
   have hnext : ∀ (ρ' : Key → Hd) (a' : Act) (w' : World), Rel V X Z w0 N ρ' (fun q => q.2 < nx ∨ (q.2 = nx ∧ (listed.setIfInBounds i true).getD (q.1 / 64) false = true)) (updT (ltS ops.toList rs (fun i => listed.getD i false) lt0 ops.size) o.dst r.av) (updB (lbS rs (fun i => listed.getD i false) lb0 ops.size) r.up) a' w' →
       wpAny P .any ops Q f (listed.setIfInBounds i true) a' w' := by
    intro ρ' a' w' hR'
    rw [eT, eB] at hR'
    refine ih _ ρ' a' w' (by simp [hs]) (by have := undone_set (listed := listed) (i := i) (by omega) g1 (m := ops.size) hlt; omega) (fun j oj hoj hj e he hb => ?_) hR'
    rw [hset] at hj ⊢
    by_cases e1 : e.on = i
    ·rw [if_pos e1]
    ·rw [if_neg e1]
     by_cases e2 : j = i
     ·subst e2; rw [g2] at hoj; cases hoj; exact g3 e he hb
     ·rw [if_neg e2] at hj; exact hcl j oj hoj hj e he hb
   unfold wpOp
   simp only [g2]
   obtain ⟨hd, hcase⟩ := hAt
   rcases hcase with ⟨hw, ⟨e, he, hn, hav, hup⟩, hkeys⟩ | ⟨hw, hav, hup⟩
   ·rw [if_pos (by rw [wantA_sound hR (b := true) (by rw [wantA_congr (fun t ht => hT t (.inr ht))]; exact hw)])]
    left
    have he' : effAt P E i o (ltS ops.toList rs (fun i => listed.getD i false) lt0 ops.size) (lbS rs (fun i => listed.getD i false) lb0 ops.size) nx = some e := by
     rw [effAt_congr (fun t ht => hT t (.inl ht)) (fun k hk => hK k (by rw [hkeys]; exact hk))]
     exact he
    refine Oper.wp_mono (fun a' w' ⟨ρ', h'⟩ => hnext ρ' a' w' (by rw [← hav, ← hup]; exact h')) (hop i hR (ok' := fun q => q.2 < nx ∨ (q.2 = nx ∧ (listed.setIfInBounds i true).getD (q.1 / 64) false = true)) (fun q hq => ?_) (fun k hk => hN ▸ hd k hk) (onlyT_sub o _) (onlyB_sub _ _) (keyAt_inj i nx) (fun j hj => ?_) he' hn)
    ·rcases hq with h1 | ⟨h1, h2⟩
     ·exact .inl h1
     ·refine .inr ⟨h1, ?_⟩
      rw [hset]
      split
      ·rfl
      ·exact h2
    ·show ¬ (nx < nx ∨ (nx = nx ∧ listed.getD ((i * 64 + j) / 64) false = true)) ∧ (nx < nx ∨ (nx = nx ∧ (listed.setIfInBounds i true).getD ((i * 64 + j) / 64) false = true))
     have e1 : (i * 64 + j) / 64 = i := by omega
     rw [e1, g1, hset, if_pos rfl]
     simp
   ·rw [if_neg (by rw [wantA_sound hR (b := false) (by rw [wantA_congr (fun t ht => hT t (.inr ht))]; exact hw)]; simp)]
    refine hnext ρ _ w ?_
    rw [hav, hup]
    refine hR.pure o.dst .un undef (fun k hk => hN ▸ hd k hk) (fun q hq => ?_) rfl
    rcases hq with h1 | ⟨h1, h2⟩
    ·exact .inl h1
    ·refine .inr ⟨h1, ?_⟩
     rw [hset]
     split
     ·rfl
     ·exact h2
end
end
end Go.Proofs.YtjpdemikmdfonaaGreatDoor
namespace Go.Proofs.YtjpdemikmdfonaaGreatDoor
open Go Go.RowKit
set_option linter.unusedSimpArgs false
set_option linter.unusedVariables false
def SR (V X : Nat → Prop) (Z : Key → Hd) (w0 : World) (N : Nat) (st : St) (a : Act) (w : World) : Prop := ∃ ρ, Rel V X Z w0 N ρ (fun q => q.2 < st.nx) (lk st.tm) (lk st.bx) a w
section
variable {V X : Nat → Prop} {Z : Key → Hd} {w0 : World} {N : Nat} {P : Program} {E : Env} {Q : Exit → Act → World → Prop}
theorem Rel.drew {w0 w : World} {ρ : Key → Hd} {ok : Key → Prop} {lt : Nat → Option AV} {lb : Key → Option Box} {a : Act} (h : Rel V X Z w0 N ρ ok lt lb a w) : Rel V X Z w0 N ρ ok lt lb a w.drew :=
 ⟨h.size, h.defers, fun t av ht => ⟨(h.tm t av ht).1, (h.tm t av ht).2.imp fun c v hc => hc.keep (Keep.drew _ w) (fun _ _ h => h) (fun _ _ => rfl) (fun _ h => h)⟩,
  fun q box hq => ⟨(h.bx q box hq).1, (h.bx q box hq).2.keep (Keep.drew _ w) (fun _ _ h => h) (fun _ _ => rfl) (fun _ h => h) (h.bx q box hq).1 (fun _ _ _ => rfl)⟩, h.ap, h.lo, h.fr.trans (Keep.drew _ _), h.va, h.zz⟩
theorem freeze_Shut (ks : List Key) : ∀ (bx : List (Key × Box)), Shut (lk bx) (lk (freezeB ks bx))
 | [] => fun q => .inl rfl
 | (k, b) :: r => fun q => by
  have ih := freeze_Shut ks r q
  by_cases h : q = k
  ·subst h
   cases b with
   | st ty cs => exact .inl (by simp [freezeB, lk])
   | fz sz rows => exact .inl (by simp [freezeB, lk])
   | mp es ck => exact .inl (by simp [freezeB, lk])
   | ca ty sz rows => exact .inl (by simp [freezeB, lk])
   | sl ty sz rows =>
    by_cases hc : ks.contains q
    ·exact .inr ⟨ty, sz, rows, by simp [lk], by simp [freezeB, lk]; simpa using hc⟩
    ·exact .inl (by simp [freezeB, lk]; simpa using hc)
  ·have e1 : lk ((k, b) :: r) q = lk r q := by show (if q = k then some b else lk r q) = _; rw [if_neg h]
   have e2 : lk (freezeB ks ((k, b) :: r)) q = lk (freezeB ks r) q := by
    show (if q = k then _ else lk (freezeB ks r) q) = _
    rw [if_neg h]
   rw [e1, e2]
   exact ih
theorem region_sound (hm : P.follows .mixedOrders = true) (hop : ∀ i, OpSound P (E.call i) E.lend) (hN : E.N = N) {id : Nat} {ops : Array Oper} {draw : Bool} {st s : St} (he : aregion P E ops draw st = some s) {a : Act} {w : World} (h : SR V X Z w0 N st a w)
    (hQ : ∀ a w, SR V X Z w0 N s a w → Q .normal a w) : (Code.region id ops draw).wp P Q a w := by
 have core : ∀ (st1 s1 : St) (ns : List Note), seqOps P E ops 0 ops.toList st1 = some (s1, [], ns) → (!draw || orderOk ops (masks ops ops.size) ns) = true → SR V X Z w0 N st1 a w → s = { s1 with nx := s1.nx + 1 } → (Code.region id ops draw).wp P Q a w := by
  intro st1 s1 ns hseq hord ⟨ρ, hR⟩ hs
  obtain ⟨rs, hrun, hnx, hns⟩ := run_of_seq hseq rfl rfl
  have hfin : ∀ a w, (∃ ρ, Rel V X Z w0 N ρ (fun q => q.2 < st1.nx + 1) (lk s1.tm) (lk s1.bx) a w) → Q .normal a w := by
   intro a w ⟨ρ, h'⟩
   refine hQ a w ⟨ρ, ?_⟩
   subst hs
   simp only [hnx]
   exact h'
  cases draw with
  | false =>
   refine wp_region ?_
   have := run_seq hop hN hrun (fun j o hj => by simpa using hj) (hR.okmono fun q hq => .inl hq) hfin
   simpa using this
  | true =>
   refine wp_region_any hm ?_
   have hD := hR.drew
   refine any_order hop hN hrun (by rw [← hns]; simpa using hord) hfin ops.size _ ρ a _ (by simp) (undone_all _ _) (fun i o ho hl => ?_) ?_
   ·exfalso
    by_cases g : i < ops.size <;> simp [Array.getD, g] at hl
   ·have e0 : (fun i => (Array.replicate ops.size false).getD i false) = fun _ => false := by
      funext i
      by_cases g : i < ops.size <;> simp [Array.getD, g]
    have e1 : ∀ n, ltS ops.toList rs (fun _ => false) (lk st1.tm) n = lk st1.tm := by
     intro n
     induction n with
     | zero => rfl
     | succ n ih => unfold ltS; rw [if_neg (by decide)]; exact ih
    have e2 : ∀ n, lbS rs (fun _ => false) (lk st1.bx) n = lk st1.bx := by
     intro n
     induction n with
     | zero => rfl
     | succ n ih => unfold lbS; rw [if_neg (by decide)]; exact ih
    rw [e0, e1, e2]
    exact hD.okmono fun q hq => .inl hq
 unfold aregion at he
 simp only [] at he
 split at he
 ·rename_i s1 h1
  cases he
  split at h1
  ·rename_i s2 k ns hseq
   split at h1
   ·rename_i hord
    cases h1
    exact core st s1 ns hseq hord h rfl
   ·cases h1
  ·cases h1
 ·rename_i s1 ks hne h1
  split at he
  ·rename_i s2 h2
   cases he
   split at h2
   ·rename_i s3 k ns hseq
    split at h2
    ·rename_i hord
     cases h2
     obtain ⟨ρ, hR⟩ := h
     exact core _ s2 ns hseq hord ⟨ρ, hR.shut (freeze_Shut ks st.bx)⟩ rfl
    ·cases h2
   ·cases h2
  ·cases he
 ·cases he
def QX (V X : Nat → Prop) (Z : Key → Hd) (w0 : World) (N : Nat) (out : AX × St) : Exit → Act → World → Prop
 | .normal, a, w => (match out.1 with | .normal => True | _ => False) ∧ SR V X Z w0 N out.2 a w
 | .exit id, a, w => (match out.1 with | .exit i => i = id | _ => False) ∧ SR V X Z w0 N out.2 a w
 | .ret, a, w => (match out.1 with | .ret => True | _ => False) ∧ SR V X Z w0 N out.2 a w
 | _, _, _ => False
theorem exists_least (p : Nat → Prop) (h : ∃ n, p n) : ∃ m, p m ∧ ∀ k, p k → m ≤ k := by
 obtain ⟨n, hn⟩ := h
 induction n using Nat.strongRecOn with
 | _ n ih =>
  by_cases hk : ∃ k, k < n ∧ p k
  ·obtain ⟨k, h1, h2⟩ := hk; exact ih k h1 h2
  ·exact ⟨n, hn, fun k hp => by
     rcases Nat.lt_or_ge k n with h | h
     ·exact absurd ⟨k, h, hp⟩ hk
     ·exact h⟩
theorem loop_sound {b : Code} {f : St → Option (AX × St)} {out : AX × St} (hb : ∀ st o, f st = some o → ∀ a w, SR V X Z w0 N st a w → b.wp P (QX V X Z w0 N o) a w) {n : Nat} {st : St} (he : iter f n st = some out) {a : Act} {w : World} (h : SR V X Z w0 N st a w) :
    (Code.loop b).wp P (QX V X Z w0 N out) a w := by
 let p : Act → World → Nat → Prop := fun a w n => ∃ st, iter f n st = some out ∧ SR V X Z w0 N st a w
 have hex : ∀ a w, ∃ m, (∃ n, p a w n) → (p a w m ∧ ∀ k, p a w k → m ≤ k) := fun a w => by
  by_cases hh : ∃ n, p a w n
  ·obtain ⟨m, h1⟩ := exists_least _ hh; exact ⟨m, fun _ => h1⟩
  ·exact ⟨0, fun h' => absurd h' hh⟩
 refine wp_loop (fun a w => ∃ n, p a w n) (fun a w => Classical.choose (hex a w)) ⟨n, st, he, h⟩ (fun a w hI => ?_)
 obtain ⟨⟨st1, h1, h2⟩, hmin⟩ := Classical.choose_spec (hex a w) hI
 generalize hm : Classical.choose (hex a w) = m at h1 hmin
 cases m with
 | zero => simp [iter] at h1
 | succ m =>
  unfold iter at h1
  split at h1
  ·rename_i s hs
   refine wp_mono (hb st1 _ hs a w h2) (fun e a' w' hq => ?_)
   cases e with
   | normal =>
    refine ⟨⟨m, s, h1, hq.2⟩, ?_⟩
    have := (Classical.choose_spec (hex a' w') ⟨m, s, h1, hq.2⟩).2 m ⟨s, h1, hq.2⟩
    show Classical.choose (hex a' w') < m + 1
    omega
   | exit id => exact hq.1.elim
   | ret => exact hq.1.elim
   | goto l => exact hq.elim
   | panic ch => exact hq.elim
   | outgrown => exact hq.elim
  ·rename_i hnn
   refine wp_mono (hb st1 out h1 a w h2) (fun e a' w' hq => ?_)
   cases e with
   | normal =>
    exfalso
    obtain ⟨x, s⟩ := out
    have hx := hq.1
    cases x with
    | normal => exact hnn s h1
    | exit id => exact hx.elim
    | ret => exact hx.elim
   | exit id => exact hq
   | ret => exact hq
   | goto l => exact hq.elim
   | panic ch => exact hq.elim
   | outgrown => exact hq.elim
theorem exec_sound (hm : P.follows .mixedOrders = true) (hop : ∀ i, OpSound P (E.call i) E.lend) (hN : E.N = N) (hcl : ∀ c st a w, SR V X Z w0 N st a w → SR V X Z w0 N (E.cl c st) a w) : ∀ (c : Code) (st : St) (out : AX × St), aexec P E c st = some out → ∀ a w, SR V X Z w0 N st a w → c.wp P (QX V X Z w0 N out) a w := by
 intro c
 induction c with
 | skip => intro st out he a w h; simp [aexec] at he; subst he; exact wp_skip ⟨trivial, h⟩
 | label l => intro st out he a w h; simp [aexec] at he; subst he; exact wp_label ⟨trivial, h⟩
 | region id ops draw =>
  intro st out he a w h
  simp only [aexec] at he
  cases h1 : aregion P E ops draw st with
  | none => simp [h1] at he
  | some s => simp [h1] at he; subst he; exact region_sound hm hop hN h1 h (fun a w h' => ⟨trivial, h'⟩)
 | seq x y ihx ihy =>
  intro st out he a w h
  simp only [aexec] at he
  split at he
  ·rename_i s hs
   refine wp_seq (wp_mono (ihx st _ hs a w h) (fun e a' w' hq => ?_))
   cases e with
   | normal => exact ihy s out he a' w' hq.2
   | exit id => exact hq.1.elim
   | ret => exact hq.1.elim
   | goto l => exact hq.elim
   | panic ch => exact hq.elim
   | outgrown => exact hq.elim
  ·rename_i hnn
   refine wp_seq (wp_mono (ihx st out he a w h) (fun e a' w' hq => ?_))
   cases e with
   | normal =>
    exfalso
    obtain ⟨x, s⟩ := out
    have hx := hq.1
    cases x with
    | normal => exact hnn s he
    | exit id => exact hx.elim
    | ret => exact hx.elim
   | exit id => exact hq
   | ret => exact hq
   | goto l => exact hq.elim
   | panic ch => exact hq.elim
   | outgrown => exact hq.elim
 | cond cnd x y ihx ihy =>
  intro st out he a w h
  simp only [aexec] at he
  split at he
  ·rename_i b hb
   obtain ⟨ρ, hR⟩ := h
   have hc : a.eval cnd = .bool b := conV_sound (x := .bool b) rfl (ev_sound hR (fun _ _ h => h) hb)
   cases b with
   | true => exact wp_cond hc (by simpa using ihx st out (by simpa using he) a w ⟨ρ, hR⟩)
   | false => exact wp_cond hc (by simpa using ihy st out (by simpa using he) a w ⟨ρ, hR⟩)
  ·cases he
 | block id b ih =>
  intro st out he a w h
  simp only [aexec] at he
  split at he
  ·rename_i i s hs
   refine wp_block (wp_mono (ih st _ hs a w h) (fun e a' w' hq => ?_))
   split at he
   ·rename_i hi
    cases he
    cases e with
    | normal => exact hq.1.elim
    | exit id' =>
     have h1 : i = id' := hq.1
     show (if id' = id then QX V X Z w0 N (.normal, s) .normal a' w' else QX V X Z w0 N (.normal, s) (.exit id') a' w')
     rw [if_pos (by omega)]
     exact ⟨trivial, hq.2⟩
    | ret => exact hq.1.elim
    | goto l => exact hq.elim
    | panic ch => exact hq.elim
    | outgrown => exact hq.elim
   ·rename_i hi
    cases he
    cases e with
    | normal => exact hq.1.elim
    | exit id' =>
     have h1 : i = id' := hq.1
     show (if id' = id then QX V X Z w0 N (.exit i, s) .normal a' w' else QX V X Z w0 N (.exit i, s) (.exit id') a' w')
     rw [if_neg (by omega)]
     exact hq
    | ret => exact hq.1.elim
    | goto l => exact hq.elim
    | panic ch => exact hq.elim
    | outgrown => exact hq.elim
  ·rename_i hnn
   refine wp_block (wp_mono (ih st out he a w h) (fun e a' w' hq => ?_))
   cases e with
   | normal => exact hq
   | exit id' =>
    exfalso
    obtain ⟨x, s⟩ := out
    have hx := hq.1
    cases x with
    | normal => exact hx.elim
    | exit i => exact hnn i s he
    | ret => exact hx.elim
   | ret => exact hq
   | goto l => exact hq.elim
   | panic ch => exact hq.elim
   | outgrown => exact hq.elim
 | loop b ih =>
  intro st out he a w h
  simp only [aexec] at he
  exact loop_sound (f := fun s => aexec P E b (E.cl b s)) (fun st o ho a w h' => ih _ o ho a w (hcl b st a w h')) he h
 | exit id => intro st out he a w h; simp [aexec] at he; subst he; exact wp_exit ⟨rfl, h⟩
 | ret => intro st out he a w h; simp [aexec] at he; subst he; exact wp_ret ⟨trivial, h⟩
 | rangeFunc f ps x y => intro st out he; simp [aexec] at he
 | scope b => intro st out he; simp [aexec] at he
 | goto l => intro st out he; simp [aexec] at he
 | refuse s => intro st out he; simp [aexec] at he
end
end Go.Proofs.YtjpdemikmdfonaaGreatDoor

